/-
  The walk of the law IPDecodingMatchesReference.
-/
import Derived.Test.YtabfihknhbfjeaaLaw06d
import Derived.Test.YtabfihknhbfjeaaHeld
import Derived.Deep.DeepCutAuto
import Derived.Outline
namespace Go.Proofs.Ytabfihknhbfjeaa.Ip
open Go.RowKit Go.Proofs.Ytabfihknhbfjeaa.Wire Go.Proofs.Ytabfihknhbfjeaa.Gen

theorem cells7s {W : World} {bk k h : Nat} {R : List UInt8} {few : ByteArray} {by_ : Int} (hb : W.heap[bk]? = some (.cells #[.string few, .string ⟨R.toArray⟩, .string (⟨R.toArray⟩ ++ few), .string ((⟨R.toArray⟩ : ByteArray).extract 0 k), .string ((⟨R.toArray⟩ : ByteArray).extract 0 k ++ ⟨#[UInt8.ofNat by_.toNat]⟩ ++ (⟨R.toArray⟩ : ByteArray).extract (k + 1) R.length), .string ((⟨R.toArray⟩ : ByteArray).extract 0 h ++ ⟨#[UInt8.ofNat by_.toNat]⟩ ++ (⟨R.toArray⟩ : ByteArray).extract (h + 1) R.length), .string ((⟨R.toArray⟩ : ByteArray).extract 0 20 ++ few)] 9)) (hR : R.length ≤ 4020) (hf : few.size ≤ 80) (k2 : Nat) (hk : k2 < 7) :
    ∃ s : ByteArray, s.size ≤ 9223372036854775807 ∧ W.cell? ⟨bk, k2, none⟩ = some (.string s) := by
  match k2, hk with
  | 0, _ => exact ⟨_, by omega, (cell_of_block hb rfl).1⟩
  | 1, _ => exact ⟨_, by simp only [sz]; omega, (cell_of_block hb rfl).1⟩
  | 2, _ => exact ⟨_, by simp only [sz, ByteArray.size_append]; omega, (cell_of_block hb rfl).1⟩
  | 3, _ => exact ⟨_, by simp only [sz, ByteArray.size_extract]; omega, (cell_of_block hb rfl).1⟩
  | 4, _ => exact ⟨_, by simp [sz, ByteArray.size_append, ByteArray.size_extract]; omega, (cell_of_block hb rfl).1⟩
  | 5, _ => exact ⟨_, by simp [sz, ByteArray.size_append, ByteArray.size_extract]; omega, (cell_of_block hb rfl).1⟩
  | 6, _ => exact ⟨_, by simp only [sz, ByteArray.size_append, ByteArray.size_extract]; omega, (cell_of_block hb rfl).1⟩
set_option maxRecDepth 100000 in
set_option maxHeartbeats 40000000 in
theorem dec_walk (x0 x1 x2 x3 x4 x5 x6 x7 at_ by_ : Int) (xs s : ByteArray) (w : World) (hat : In64 at_) (hs : s.size ≤ 9223372036854775807)
    (HX : Hid (∀ w, Calls Try.prog 9 #[.agg #[.int .i64 x0, .int .i64 x1, .int .i64 x2, .int .i64 x3, .int .i64 x4, .int .i64 x5, .int .i64 x6, .int .i64 x7, .string xs]] w fun e w' => (∃ p : Pk, p.ok ∧ p.s.size ≤ 300 ∧ e = .returned (.agg #[.int .i64 p.f, .int .i64 p.t, .int .i64 p.pr, .int .i64 p.ttl, .int .i64 p.id, .bool p.df, .bool p.mf, .int .i64 p.off, .string p.s])) ∧ Below w.heap.size w w')) :
    Calls Try.prog 4 #[.agg #[.int .i64 x0, .int .i64 x1, .int .i64 x2, .int .i64 x3, .int .i64 x4, .int .i64 x5, .int .i64 x6, .int .i64 x7, .string xs], .string s, .int .i64 at_, .int .u8 by_] w fun e w' => e = .returned (.bool true) ∧ Below w.heap.size w w' := by
  go_enter Try.func4, Try.ntmps4
  have HB := Below.refl w.heap.size w
  have Hx := Lib.hid (alloc_new' w (.cells #[.int .i64 x0, .int .i64 x1, .int .i64 x2, .int .i64 x3, .int .i64 x4, .int .i64 x5, .int .i64 x6, .int .i64 x7, .string xs] 23) (w.heap.size) (by simp))
  have HB' := below_alloc (o := .cells #[.int .i64 x0, .int .i64 x1, .int .i64 x2, .int .i64 x3, .int .i64 x4, .int .i64 x5, .int .i64 x6, .int .i64 x7, .string xs] 23) HB; clear HB; have HB := HB'; clear HB'
  go_wp2_with fail
  refine (sane_any _).mono ?_
  rintro e w1 ⟨rfl, hb⟩
  have Hx' := Lib.hid (bblock hb Hx.out); clear Hx; have Hx := Hx'; clear Hx'
  have HB' := below_call HB hb; clear HB hb; have HB := HB'; clear HB'; have hz1 := HB.size
  have lt_x_1 := blk_lt Hx.out
  have Sx := cells9 Hx.out
  obtain ⟨⟨qx0, qx1, qx2, qx3, qx4, qx5, qx6, qx7, qx8⟩, zx0, zx1, zx2, zx3, zx4, zx5, zx6, zx7, zx8⟩ := Sx
  have lt_x := blk_lt Hx.out
  go_wp2_with fail
  generalize hfew : s.extract 0 (min (s.size : Int) 80).toNat = few at *
  have hfs : few.size ≤ 80 := by rw [← hfew]; simp; omega
  clear hfew
  refine (HX.out _).mono ?_
  rintro e w2 ⟨⟨p, hp, hps, rfl⟩, hb⟩
  have Hx' := Lib.hid (bblock hb Hx.out); clear Hx; have Hx := Hx'; clear Hx'
  have HB' := below_call HB hb; clear HB hb; have HB := HB'; clear HB'; have hz2 := HB.size
  have lt_x_2 := blk_lt Hx.out
  clear qx0 zx0 qx1 zx1 qx2 zx2 qx3 zx3 qx4 zx4 qx5 zx5 qx6 zx6 qx7 zx7 qx8 zx8
  obtain ⟨R, hR1, hR2, HE⟩ := renc_pk p hp
  go_wp2_with fail
  refine (HE.out _).mono ?_
  rintro e w3 ⟨rfl, hb⟩
  have Hx' := Lib.hid (bblock hb Hx.out); clear Hx; have Hx := Hx'; clear Hx'
  have HB' := below_call HB hb; clear HB hb; have HB := HB'; clear HB'; have hz3 := HB.size
  have lt_x_3 := blk_lt Hx.out
  clear Hx
  go_wp2_with fail
  rw [show max ((R.length : Int)) 1 = (R.length : Int) from by omega]
  have hkb := pick_lt at_ (R.length : Int) (by omega)
  have HK := Lib.hid fun w => pick_any at_ (R.length : Int) w hat.1 hat.2 (by omega) (by omega)
  obtain ⟨k, hk⟩ := Int.eq_ofNat_of_zero_le hkb.1
  rw [hk] at hkb HK; clear hk
  have hhb := pick_lt at_ 20 (by omega)
  have HH := Lib.hid fun w => pick_any at_ 20 w hat.1 hat.2 (by omega) (by omega)
  obtain ⟨h, hh⟩ := Int.eq_ofNat_of_zero_le hhb.1
  rw [hh] at hhb HH; clear hh
  refine (HK.out _).mono ?_
  rintro e w' ⟨rfl, rfl⟩
  go_wp2_with fail
  refine (HH.out _).mono ?_
  rintro e w' ⟨rfl, rfl⟩
  go_upto_region 6 with fail
  have b1k : (0 : Int) ≤ (k : Int) := by omega
  have b3k : (k : Int) ≤ (R.length : Int) := by omega
  have b4k : (k : Int) + 1 ≤ (R.length : Int) := by omega
  have b5k : (0 : Int) ≤ (k : Int) + 1 := by omega
  have b6k : IntKind.i64.wrap ((k : Int) + 1) = (k : Int) + 1 := IntWalk.i64_in _ (by omega)
  have b7k : ((k : Int) + 1).toNat = k + 1 := by omega
  have b8k : min ((k : Int) + 1) (R.length : Int) = (k : Int) + 1 := by omega
  have b1h : (0 : Int) ≤ (h : Int) := by omega
  have b3h : (h : Int) ≤ (R.length : Int) := by omega
  have b4h : (h : Int) + 1 ≤ (R.length : Int) := by omega
  have b5h : (0 : Int) ≤ (h : Int) + 1 := by omega
  have b6h : IntKind.i64.wrap ((h : Int) + 1) = (h : Int) + 1 := IntWalk.i64_in _ (by omega)
  have b7h : ((h : Int) + 1).toNat = h + 1 := by omega
  have b8h : min ((h : Int) + 1) (R.length : Int) = (h : Int) + 1 := by omega
  have b9 : min (h : Int) (R.length : Int) = (h : Int) := by omega
  have b10 : min 20 (R.length : Int) = 20 := by omega
  have b11 : (20 : Int) ≤ (R.length : Int) := by omega
  have hq1 : ¬ 9223372036854775807 < R.length + few.size := by omega
  have hq2k : ¬ 9223372036854775807 < min k R.length + 1 := by omega
  have hq3k : ¬ 9223372036854775807 < min k R.length + 1 + (R.length - (k + 1)) := by omega
  have hq4k : ¬ 9223372036854775807 < k + 1 := by omega
  have hq5k : ¬ 9223372036854775807 < k + 1 + (R.length - (k + 1)) := by omega
  have hq2h : ¬ 9223372036854775807 < min h R.length + 1 := by omega
  have hq3h : ¬ 9223372036854775807 < min h R.length + 1 + (R.length - (h + 1)) := by omega
  have hq4h : ¬ 9223372036854775807 < h + 1 := by omega
  have hq5h : ¬ 9223372036854775807 < h + 1 + (R.length - (h + 1)) := by omega
  have hq6 : ¬ 9223372036854775807 < min 20 R.length + few.size := by omega
  have hq7 : ¬ 9223372036854775807 < 20 + few.size := by omega
  have hcv := conv_one
  go_cut [92, 93, 94] (fun s92 s93 s94 wx => s92 = .slice (some ⟨w3.heap.size + 1 + 1, 0, none⟩) 7 7 ∧ s93 = .int .i64 7 ∧ s94 = .int .i64 0 ∧ Below w.heap.size w wx ∧ wx.heap[w3.heap.size + 1 + 1]? = some (.cells #[.string few, .string ⟨R.toArray⟩, .string (⟨R.toArray⟩ ++ few), .string ((⟨R.toArray⟩ : ByteArray).extract 0 k), .string ((⟨R.toArray⟩ : ByteArray).extract 0 k ++ ⟨#[UInt8.ofNat by_.toNat]⟩ ++ (⟨R.toArray⟩ : ByteArray).extract (k + 1) R.length), .string ((⟨R.toArray⟩ : ByteArray).extract 0 h ++ ⟨#[UInt8.ofNat by_.toNat]⟩ ++ (⟨R.toArray⟩ : ByteArray).extract (h + 1) R.length), .string ((⟨R.toArray⟩ : ByteArray).extract 0 20 ++ few)] 9))
  case first =>
    refine wp_region_held_drew (S := fun w' => Below w.heap.size w w') (by kernel_rfl) HB.drew ?_
    intro hS
    refine wpAnyH_take (i := 0) (v := ?va0) rfl (by kernel_rfl) (by kernel_rfl) (by kernel_rfl) (fun _ _ _ h => h) (Or.inl ⟨by rfl, ?hya0⟩) (by exact hS) ?rea0
    case hya0 => (intro ww hSw; (try dsimp only at hSw); go_simp; first | done | with_reducible rfl)
    try simp only [Act.put]
    refine wpAnyH_take (i := 1) (v := ?va1) rfl (by kernel_rfl) (by kernel_rfl) (by kernel_rfl) (fun _ _ _ h => h) (Or.inl ⟨by rfl, ?hya1⟩) (by exact hS) ?rea1
    case hya1 => (intro ww hSw; (try dsimp only at hSw); go_simp; first | done | with_reducible rfl)
    try simp only [Act.put]
    refine wpAnyH_take (i := 2) (v := ?va2) rfl (by kernel_rfl) (by kernel_rfl) (by kernel_rfl) (fun _ _ _ h => h) (Or.inl ⟨by rfl, ?hya2⟩) (by exact hS) ?rea2
    case hya2 => (intro ww hSw; (try dsimp only at hSw); go_simp; first | done | with_reducible rfl)
    try simp only [Act.put]
    refine wpAnyH_take (i := 3) (v := ?va3) rfl (by kernel_rfl) (by kernel_rfl) (by kernel_rfl) (fun _ _ _ h => h) (Or.inl ⟨by rfl, ?hya3⟩) (by exact hS) ?rea3
    case hya3 => (intro ww hSw; (try dsimp only at hSw); go_simp; first | done | with_reducible rfl)
    try simp only [Act.put]
    refine wpAnyH_take (i := 4) (v := ?va4) rfl (by kernel_rfl) (by kernel_rfl) (by kernel_rfl) (fun _ _ _ h => h) (Or.inl ⟨by rfl, ?hya4⟩) (by exact hS) ?rea4
    case hya4 => (intro ww hSw; (try dsimp only at hSw); go_simp; first | done | with_reducible rfl)
    try simp only [Act.put]
    refine wpAnyH_take (i := 5) (v := ?va5) rfl (by kernel_rfl) (by kernel_rfl) (by kernel_rfl) (fun _ _ _ h => h) (Or.inl ⟨by rfl, ?hya5⟩) (by exact hS) ?rea5
    case hya5 => (intro ww hSw; (try dsimp only at hSw); go_simp; first | done | with_reducible rfl)
    try simp only [Act.put]
    refine wpAnyH_take (i := 6) (v := ?va6) rfl (by kernel_rfl) (by kernel_rfl) (by kernel_rfl) (fun _ _ _ h => h) (Or.inl ⟨by rfl, ?hya6⟩) (by exact hS) ?rea6
    case hya6 => (intro ww hSw; (try dsimp only at hSw); go_simp; first | done | with_reducible rfl)
    try simp only [Act.put]
    refine wpAnyH_take (i := 7) (v := ?va7) rfl (by kernel_rfl) (by kernel_rfl) (by kernel_rfl) (fun _ _ _ h => h) (Or.inl ⟨by rfl, ?hya7⟩) (by exact hS) ?rea7
    case hya7 => (intro ww hSw; (try dsimp only at hSw); go_simp; first | done | with_reducible rfl)
    try simp only [Act.put]
    refine wpAnyH_take (i := 8) (v := ?va8) rfl (by kernel_rfl) (by kernel_rfl) (by kernel_rfl) (fun _ _ _ h => h) (Or.inl ⟨by rfl, ?hya8⟩) (by exact hS) ?rea8
    case hya8 => (intro ww hSw; (try dsimp only at hSw); go_simp; first | done | with_reducible rfl)
    try simp only [Act.put]
    refine wpAnyH_take (i := 9) (v := ?va9) rfl (by kernel_rfl) (by kernel_rfl) (by kernel_rfl) (fun _ _ _ h => h) (Or.inl ⟨by rfl, ?hya9⟩) (by exact hS) ?rea9
    case hya9 => (intro ww hSw; (try dsimp only at hSw); go_simp; first | done | with_reducible rfl)
    try simp only [Act.put]
    refine wpAnyH_take (i := 10) (v := ?va10) rfl (by kernel_rfl) (by kernel_rfl) (by kernel_rfl) (fun _ _ _ h => h) (Or.inl ⟨by rfl, ?hya10⟩) (by exact hS) ?rea10
    case hya10 => (intro ww hSw; (try dsimp only at hSw); go_simp; first | done | with_reducible rfl)
    try simp only [Act.put]
    refine wpAnyH_take (i := 11) (v := ?va11) rfl (by kernel_rfl) (by kernel_rfl) (by kernel_rfl) (fun _ _ _ h => h) (Or.inl ⟨by rfl, ?hya11⟩) (by exact hS) ?rea11
    case hya11 => (intro ww hSw; (try dsimp only at hSw); go_simp; first | done | with_reducible rfl)
    try simp only [Act.put]
    refine wpAnyH_take (i := 15) (v := ?va15) rfl (by kernel_rfl) (by kernel_rfl) (by kernel_rfl) (fun _ _ _ h => h) (Or.inl ⟨by rfl, ?hya15⟩) (by exact hS) ?rea15
    case hya15 => (intro ww hSw; (try dsimp only at hSw); go_simp; first | done | with_reducible rfl)
    try simp only [Act.put]
    refine wpAnyH_take (i := 16) (v := ?va16) rfl (by kernel_rfl) (by kernel_rfl) (by kernel_rfl) (fun _ _ _ h => h) (Or.inl ⟨by rfl, ?hya16⟩) (by exact hS) ?rea16
    case hya16 => (intro ww hSw; (try dsimp only at hSw); go_simp; first | done | with_reducible rfl)
    try simp only [Act.put]
    refine wpAnyH_take (i := 17) (v := ?va17) rfl (by kernel_rfl) (by kernel_rfl) (by kernel_rfl) (fun _ _ _ h => h) (Or.inl ⟨by rfl, ?hya17⟩) (by exact hS) ?rea17
    case hya17 => (intro ww hSw; (try dsimp only at hSw); go_simp; first | done | with_reducible rfl)
    try simp only [Act.put]
    refine wpAnyH_take (i := 18) (v := ?va18) rfl (by kernel_rfl) (by kernel_rfl) (by kernel_rfl) (fun _ _ _ h => h) (Or.inl ⟨by rfl, ?hya18⟩) (by exact hS) ?rea18
    case hya18 => (intro ww hSw; (try dsimp only at hSw); go_simp; first | done | with_reducible rfl)
    try simp only [Act.put]
    refine wpAnyH_take (i := 19) (v := ?va19) rfl (by kernel_rfl) (by kernel_rfl) (by kernel_rfl) (fun _ _ _ h => h) (Or.inl ⟨by rfl, ?hya19⟩) (by exact hS) ?rea19
    case hya19 => (intro ww hSw; (try dsimp only at hSw); go_simp; first | done | with_reducible rfl)
    try simp only [Act.put]
    refine wpAnyH_take (i := 20) (v := ?va20) rfl (by kernel_rfl) (by kernel_rfl) (by kernel_rfl) (fun _ _ _ h => h) (Or.inl ⟨by rfl, ?hya20⟩) (by exact hS) ?rea20
    case hya20 => (intro ww hSw; (try dsimp only at hSw); go_simp; first | done | with_reducible rfl)
    try simp only [Act.put]
    refine wpAnyH_take (i := 21) (v := ?va21) rfl (by kernel_rfl) (by kernel_rfl) (by kernel_rfl) (fun _ _ _ h => h) (Or.inl ⟨by rfl, ?hya21⟩) (by exact hS) ?rea21
    case hya21 => (intro ww hSw; (try dsimp only at hSw); go_simp; first | done | with_reducible rfl)
    try simp only [Act.put]
    refine wpAnyH_take (i := 23) (v := ?va23) rfl (by kernel_rfl) (by kernel_rfl) (by kernel_rfl) (fun _ _ _ h => h) (Or.inl ⟨by rfl, ?hya23⟩) (by exact hS) ?rea23
    case hya23 => (intro ww hSw; (try dsimp only at hSw); go_simp; first | done | with_reducible rfl)
    try simp only [Act.put]
    refine wpAnyH_take (i := 24) (v := ?va24) rfl (by kernel_rfl) (by kernel_rfl) (by kernel_rfl) (fun _ _ _ h => h) (Or.inl ⟨by rfl, ?hya24⟩) (by exact hS) ?rea24
    case hya24 => (intro ww hSw; (try dsimp only at hSw); go_simp; first | done | with_reducible rfl)
    try simp only [Act.put]
    refine wpAnyH_take (i := 25) (v := ?va25) rfl (by kernel_rfl) (by kernel_rfl) (by kernel_rfl) (fun _ _ _ h => h) (Or.inl ⟨by rfl, ?hya25⟩) (by exact hS) ?rea25
    case hya25 => (intro ww hSw; (try dsimp only at hSw); go_simp; first | done | with_reducible rfl)
    try simp only [Act.put]
    refine wpAnyH_take (i := 26) (v := ?va26) rfl (by kernel_rfl) (by kernel_rfl) (by kernel_rfl) (fun _ _ _ h => h) (Or.inl ⟨by rfl, ?hya26⟩) (by exact hS) ?rea26
    case hya26 => (intro ww hSw; (try dsimp only at hSw); go_simp; first | done | with_reducible rfl)
    try simp only [Act.put]
    refine wpAnyH_take (i := 27) (v := ?va27) rfl (by kernel_rfl) (by kernel_rfl) (by kernel_rfl) (fun _ _ _ h => h) (Or.inl ⟨by rfl, ?hya27⟩) (by exact hS) ?rea27
    case hya27 => (intro ww hSw; (try dsimp only at hSw); go_simp; first | done | with_reducible rfl)
    try simp only [Act.put]
    refine wpAnyH_take (i := 28) (v := ?va28) rfl (by kernel_rfl) (by kernel_rfl) (by kernel_rfl) (fun _ _ _ h => h) (Or.inl ⟨by rfl, ?hya28⟩) (by exact hS) ?rea28
    case hya28 => (intro ww hSw; (try dsimp only at hSw); go_simp; first | done | with_reducible rfl)
    try simp only [Act.put]
    refine wpAnyH_take (i := 29) (v := ?va29) rfl (by kernel_rfl) (by kernel_rfl) (by kernel_rfl) (fun _ _ _ h => h) (Or.inl ⟨by rfl, ?hya29⟩) (by exact hS) ?rea29
    case hya29 => (intro ww hSw; (try dsimp only at hSw); go_simp; first | done | with_reducible rfl)
    try simp only [Act.put]
    refine wpAnyH_take (i := 33) (v := ?va33) rfl (by kernel_rfl) (by kernel_rfl) (by kernel_rfl) (fun _ _ _ h => h) (Or.inl ⟨by rfl, ?hya33⟩) (by exact hS) ?rea33
    case hya33 => (intro ww hSw; (try dsimp only at hSw); go_simp; first | done | with_reducible rfl)
    try simp only [Act.put]
    refine wpAnyH_take (i := 34) (v := ?va34) rfl (by kernel_rfl) (by kernel_rfl) (by kernel_rfl) (fun _ _ _ h => h) (Or.inl ⟨by rfl, ?hya34⟩) (by exact hS) ?rea34
    case hya34 => (intro ww hSw; (try dsimp only at hSw); go_simp; first | done | with_reducible rfl)
    try simp only [Act.put]
    refine wpAnyH_take (i := 35) (v := ?va35) rfl (by kernel_rfl) (by kernel_rfl) (by kernel_rfl) (fun _ _ _ h => h) (Or.inl ⟨by rfl, ?hya35⟩) (by exact hS) ?rea35
    case hya35 => (intro ww hSw; (try dsimp only at hSw); go_simp; first | done | with_reducible rfl)
    try simp only [Act.put]
    refine wpAnyH_take (i := 36) (v := ?va36) rfl (by kernel_rfl) (by kernel_rfl) (by kernel_rfl) (fun _ _ _ h => h) (Or.inl ⟨by rfl, ?hya36⟩) (by exact hS) ?rea36
    case hya36 => (intro ww hSw; (try dsimp only at hSw); go_simp; first | done | with_reducible rfl)
    try simp only [Act.put]
    refine wpAnyH_take (i := 37) (v := ?va37) rfl (by kernel_rfl) (by kernel_rfl) (by kernel_rfl) (fun _ _ _ h => h) (Or.inl ⟨by rfl, ?hya37⟩) (by exact hS) ?rea37
    case hya37 => (intro ww hSw; (try dsimp only at hSw); go_simp; first | done | with_reducible rfl)
    try simp only [Act.put]
    refine wpAnyH_take (i := 38) (v := ?va38) rfl (by kernel_rfl) (by kernel_rfl) (by kernel_rfl) (fun _ _ _ h => h) (Or.inl ⟨by rfl, ?hya38⟩) (by exact hS) ?rea38
    case hya38 => (intro ww hSw; (try dsimp only at hSw); go_simp; first | done | with_reducible rfl)
    try simp only [Act.put]
    refine wpAnyH_take (i := 39) (v := ?va39) rfl (by kernel_rfl) (by kernel_rfl) (by kernel_rfl) (fun _ _ _ h => h) (Or.inl ⟨by rfl, ?hya39⟩) (by exact hS) ?rea39
    case hya39 => (intro ww hSw; (try dsimp only at hSw); go_simp; first | done | with_reducible rfl)
    try simp only [Act.put]
    refine wpAnyH_take (i := 41) (v := ?va41) rfl (by kernel_rfl) (by kernel_rfl) (by kernel_rfl) (fun _ _ _ h => h) (Or.inl ⟨by rfl, ?hya41⟩) (by exact hS) ?rea41
    case hya41 => (intro ww hSw; (try dsimp only at hSw); go_simp; first | done | with_reducible rfl)
    try simp only [Act.put]
    refine wpAnyH_take (i := 42) (v := ?va42) rfl (by kernel_rfl) (by kernel_rfl) (by kernel_rfl) (fun _ _ _ h => h) (Or.inl ⟨by rfl, ?hya42⟩) (by exact hS) ?rea42
    case hya42 => (intro ww hSw; (try dsimp only at hSw); go_simp; first | done | with_reducible rfl)
    try simp only [Act.put]
    refine wpAnyH_take (i := 43) (v := ?va43) rfl (by kernel_rfl) (by kernel_rfl) (by kernel_rfl) (fun _ _ _ h => h) (Or.inl ⟨by rfl, ?hya43⟩) (by exact hS) ?rea43
    case hya43 => (intro ww hSw; (try dsimp only at hSw); go_simp; first | done | with_reducible rfl)
    try simp only [Act.put]
    refine wpAnyH_take (i := 44) (v := ?va44) rfl (by kernel_rfl) (by kernel_rfl) (by kernel_rfl) (fun _ _ _ h => h) (Or.inl ⟨by rfl, ?hya44⟩) (by exact hS) ?rea44
    case hya44 => (intro ww hSw; (try dsimp only at hSw); go_simp; first | done | with_reducible rfl)
    try simp only [Act.put]
    refine wpAnyH_take (i := 45) (v := ?va45) rfl (by kernel_rfl) (by kernel_rfl) (by kernel_rfl) (fun _ _ _ h => h) (Or.inl ⟨by rfl, ?hya45⟩) (by exact hS) ?rea45
    case hya45 => (intro ww hSw; (try dsimp only at hSw); go_simp; first | done | with_reducible rfl)
    try simp only [Act.put]
    refine wpAnyH_take (i := 46) (v := ?va46) rfl (by kernel_rfl) (by kernel_rfl) (by kernel_rfl) (fun _ _ _ h => h) (Or.inl ⟨by rfl, ?hya46⟩) (by exact hS) ?rea46
    case hya46 => (intro ww hSw; (try dsimp only at hSw); go_simp; first | done | with_reducible rfl)
    try simp only [Act.put]
    refine wpAnyH_take (i := 47) (v := ?va47) rfl (by kernel_rfl) (by kernel_rfl) (by kernel_rfl) (fun _ _ _ h => h) (Or.inl ⟨by rfl, ?hya47⟩) (by exact hS) ?rea47
    case hya47 => (intro ww hSw; (try dsimp only at hSw); go_simp; first | done | with_reducible rfl)
    try simp only [Act.put]
    refine wpAnyH_take (i := 50) (v := ?va50) rfl (by kernel_rfl) (by kernel_rfl) (by kernel_rfl) (fun _ _ _ h => h) (Or.inl ⟨by rfl, ?hya50⟩) (by exact hS) ?rea50
    case hya50 => (intro ww hSw; (try dsimp only at hSw); go_simp; first | done | with_reducible rfl)
    try simp only [Act.put]
    refine wpAnyH_ready (rs := [12, 30]) (by kernel_rfl) (by simp) ?_
    refine AllReadyH.cons rfl (fun Kx hKx => ?stx) ?mox
    case stx =>
      go_simp
      have c1x : ((w3).alloc (.cells #[.int .u8 by_] 5)).cell? ⟨w3.heap.size, 0, none⟩ = some (.int .u8 by_) := (cell_of_box (alloc_new _ _)).1
      have c2x : (((w3).alloc (.cells #[.int .u8 by_] 5)).alloc (.cells #[.int .u8 by_] 5)).cell? ⟨w3.heap.size, 0, none⟩ = some (.int .u8 by_) := cell_alloc' _ c1x
      have c3x : (((w3).alloc (.cells #[.int .u8 by_] 5)).alloc (.cells #[.int .u8 by_] 5)).cell? ⟨w3.heap.size + 1, 0, none⟩ = some (.int .u8 by_) := (cell_of_box (alloc_new' ((w3).alloc (.cells #[.int .u8 by_] 5)) (.cells #[.int .u8 by_] 5) (w3.heap.size + 1) (by simp))).1
      have c1hx := Lib.hid c1x; have c2hx := Lib.hid c2x; have c3hx := Lib.hid c3x; clear c1x c2x c3x
      refine hKx.out _ _ (below_alloc HB).drew (fun h1x => ?_)
      refine wpAnyH_sharpen (S1 := (fun w' : World => Below w.heap.size w w' ∧ w'.cell? ⟨w3.heap.size, 0, none⟩ = some (.int .u8 by_))) (fun _ h => h.1) _ _ _ _ ?_
      have hS1x : (fun w' : World => Below w.heap.size w w' ∧ w'.cell? ⟨w3.heap.size, 0, none⟩ = some (.int .u8 by_)) ((w3).alloc (.cells #[.int .u8 by_] 5)).drew := ⟨(below_alloc HB).drew, c1hx.out⟩
      refine wpAnyH_take (i := 13) (v := ?vxb13) rfl (by kernel_rfl) (by kernel_rfl) (by kernel_rfl) (fun _ _ _ h => h) (Or.inl ⟨by rfl, ?hyxb13⟩) (by exact hS1x) ?rexb13
      case hyxb13 => (intro ww hSw; (try dsimp only at hSw); go_simp; first | done | with_reducible rfl)
      try simp only [Act.put]
      refine wpAnyH_take (i := 14) (v := ?vxb14) rfl (by kernel_rfl) (by kernel_rfl) (by kernel_rfl) (fun _ _ _ h => h) (Or.inl ⟨by rfl, ?hyxb14⟩) (by exact hS1x) ?rexb14
      case hyxb14 => (intro ww hSw; (try dsimp only at hSw); go_simp; first | done | with_reducible rfl)
      try simp only [Act.put]
      refine wpAnyH_take (i := 22) (v := ?vxb22) rfl (by kernel_rfl) (by kernel_rfl) (by kernel_rfl) (fun _ _ _ h => h) (Or.inl ⟨by rfl, ?hyxb22⟩) (by exact hS1x) ?rexb22
      case hyxb22 => (intro ww hSw; (try dsimp only at hSw); go_simp; first | done | with_reducible rfl)
      try simp only [Act.put]
      refine wpAnyH_ready (rs := [30]) (by kernel_rfl) (by simp) ?_
      refine AllReadyH.cons rfl (fun Kxc hKxc => ?stxc) AllReadyH.nil
      go_simp
      refine hKxc.out _ _ ⟨(below_alloc (below_alloc HB)).drew, c2hx.out⟩ (fun h2x => ?_)
      refine wpAnyH_sharpen (S1 := (fun w' : World => Below w.heap.size w w' ∧ w'.cell? ⟨w3.heap.size, 0, none⟩ = some (.int .u8 by_) ∧ w'.cell? ⟨w3.heap.size + 1, 0, none⟩ = some (.int .u8 by_))) (fun _ h => ⟨h.1, h.2.1⟩) _ _ _ _ ?_
      have hS2x : (fun w' : World => Below w.heap.size w w' ∧ w'.cell? ⟨w3.heap.size, 0, none⟩ = some (.int .u8 by_) ∧ w'.cell? ⟨w3.heap.size + 1, 0, none⟩ = some (.int .u8 by_)) (((w3).alloc (.cells #[.int .u8 by_] 5)).alloc (.cells #[.int .u8 by_] 5)).drew := ⟨(below_alloc (below_alloc HB)).drew, c2hx.out, c3hx.out⟩
      refine wpAnyH_take (i := 31) (v := ?vxd31) rfl (by kernel_rfl) (by kernel_rfl) (by kernel_rfl) (fun _ _ _ h => h) (Or.inl ⟨by rfl, ?hyxd31⟩) (by exact hS2x) ?rexd31
      case hyxd31 => (intro ww hSw; (try dsimp only at hSw); go_simp; first | done | with_reducible rfl)
      try simp only [Act.put]
      refine wpAnyH_take (i := 32) (v := ?vxd32) rfl (by kernel_rfl) (by kernel_rfl) (by kernel_rfl) (fun _ _ _ h => h) (Or.inl ⟨by rfl, ?hyxd32⟩) (by exact hS2x) ?rexd32
      case hyxd32 => (intro ww hSw; (try dsimp only at hSw); go_simp; first | done | with_reducible rfl)
      try simp only [Act.put]
      refine wpAnyH_take (i := 40) (v := ?vxd40) rfl (by kernel_rfl) (by kernel_rfl) (by kernel_rfl) (fun _ _ _ h => h) (Or.inl ⟨by rfl, ?hyxd40⟩) (by exact hS2x) ?rexd40
      case hyxd40 => (intro ww hSw; (try dsimp only at hSw); go_simp; first | done | with_reducible rfl)
      try simp only [Act.put]
      refine wpAnyH_ready (rs := [48]) (by kernel_rfl) (by simp) ?_
      refine AllReadyH.cons rfl (fun Kxe hKxe => ?stxe) AllReadyH.nil
      go_simp
      refine hKxe.out _ _ ⟨(below_alloc (below_alloc (below_alloc HB))).drew, cell_alloc' _ c2hx.out, cell_alloc' _ c3hx.out⟩ (fun h3x => ?_)
      refine wpAnyH_take (i := 49) (v := ?vxf49) rfl (by kernel_rfl) (by kernel_rfl) (by kernel_rfl) (fun _ _ _ h => h) (Or.inl ⟨by rfl, ?hyxf49⟩) (by exact h3x) ?rexf49
      case hyxf49 => (intro ww hSw; (try dsimp only at hSw); go_simp; first | done | with_reducible rfl)
      try simp only [Act.put]
      refine wpAnyH_done (by kernel_rfl) ?_ _
      go_wp2_with fail
      go_meet
      exact ⟨rfl, rfl, rfl, (below_alloc (below_alloc (below_alloc HB))).drew, alloc_new' _ _ _ (by simp)⟩
    refine AllReadyH.cons rfl (fun Ky hKy => ?sty) ?moy
    case sty =>
      go_simp
      have c1y : ((w3).alloc (.cells #[.int .u8 by_] 5)).cell? ⟨w3.heap.size, 0, none⟩ = some (.int .u8 by_) := (cell_of_box (alloc_new _ _)).1
      have c2y : (((w3).alloc (.cells #[.int .u8 by_] 5)).alloc (.cells #[.int .u8 by_] 5)).cell? ⟨w3.heap.size, 0, none⟩ = some (.int .u8 by_) := cell_alloc' _ c1y
      have c3y : (((w3).alloc (.cells #[.int .u8 by_] 5)).alloc (.cells #[.int .u8 by_] 5)).cell? ⟨w3.heap.size + 1, 0, none⟩ = some (.int .u8 by_) := (cell_of_box (alloc_new' ((w3).alloc (.cells #[.int .u8 by_] 5)) (.cells #[.int .u8 by_] 5) (w3.heap.size + 1) (by simp))).1
      have c1hy := Lib.hid c1y; have c2hy := Lib.hid c2y; have c3hy := Lib.hid c3y; clear c1y c2y c3y
      refine hKy.out _ _ (below_alloc HB).drew (fun h1y => ?_)
      refine wpAnyH_sharpen (S1 := (fun w' : World => Below w.heap.size w w' ∧ w'.cell? ⟨w3.heap.size, 0, none⟩ = some (.int .u8 by_))) (fun _ h => h.1) _ _ _ _ ?_
      have hS1y : (fun w' : World => Below w.heap.size w w' ∧ w'.cell? ⟨w3.heap.size, 0, none⟩ = some (.int .u8 by_)) ((w3).alloc (.cells #[.int .u8 by_] 5)).drew := ⟨(below_alloc HB).drew, c1hy.out⟩
      refine wpAnyH_take (i := 31) (v := ?vyb31) rfl (by kernel_rfl) (by kernel_rfl) (by kernel_rfl) (fun _ _ _ h => h) (Or.inl ⟨by rfl, ?hyyb31⟩) (by exact hS1y) ?reyb31
      case hyyb31 => (intro ww hSw; (try dsimp only at hSw); go_simp; first | done | with_reducible rfl)
      try simp only [Act.put]
      refine wpAnyH_take (i := 32) (v := ?vyb32) rfl (by kernel_rfl) (by kernel_rfl) (by kernel_rfl) (fun _ _ _ h => h) (Or.inl ⟨by rfl, ?hyyb32⟩) (by exact hS1y) ?reyb32
      case hyyb32 => (intro ww hSw; (try dsimp only at hSw); go_simp; first | done | with_reducible rfl)
      try simp only [Act.put]
      refine wpAnyH_take (i := 40) (v := ?vyb40) rfl (by kernel_rfl) (by kernel_rfl) (by kernel_rfl) (fun _ _ _ h => h) (Or.inl ⟨by rfl, ?hyyb40⟩) (by exact hS1y) ?reyb40
      case hyyb40 => (intro ww hSw; (try dsimp only at hSw); go_simp; first | done | with_reducible rfl)
      try simp only [Act.put]
      refine wpAnyH_ready (rs := [12]) (by kernel_rfl) (by simp) ?_
      refine AllReadyH.cons rfl (fun Kyc hKyc => ?styc) AllReadyH.nil
      go_simp
      refine hKyc.out _ _ ⟨(below_alloc (below_alloc HB)).drew, c2hy.out⟩ (fun h2y => ?_)
      refine wpAnyH_sharpen (S1 := (fun w' : World => Below w.heap.size w w' ∧ w'.cell? ⟨w3.heap.size, 0, none⟩ = some (.int .u8 by_) ∧ w'.cell? ⟨w3.heap.size + 1, 0, none⟩ = some (.int .u8 by_))) (fun _ h => ⟨h.1, h.2.1⟩) _ _ _ _ ?_
      have hS2y : (fun w' : World => Below w.heap.size w w' ∧ w'.cell? ⟨w3.heap.size, 0, none⟩ = some (.int .u8 by_) ∧ w'.cell? ⟨w3.heap.size + 1, 0, none⟩ = some (.int .u8 by_)) (((w3).alloc (.cells #[.int .u8 by_] 5)).alloc (.cells #[.int .u8 by_] 5)).drew := ⟨(below_alloc (below_alloc HB)).drew, c2hy.out, c3hy.out⟩
      refine wpAnyH_take (i := 13) (v := ?vyd13) rfl (by kernel_rfl) (by kernel_rfl) (by kernel_rfl) (fun _ _ _ h => h) (Or.inl ⟨by rfl, ?hyyd13⟩) (by exact hS2y) ?reyd13
      case hyyd13 => (intro ww hSw; (try dsimp only at hSw); go_simp; first | done | with_reducible rfl)
      try simp only [Act.put]
      refine wpAnyH_take (i := 14) (v := ?vyd14) rfl (by kernel_rfl) (by kernel_rfl) (by kernel_rfl) (fun _ _ _ h => h) (Or.inl ⟨by rfl, ?hyyd14⟩) (by exact hS2y) ?reyd14
      case hyyd14 => (intro ww hSw; (try dsimp only at hSw); go_simp; first | done | with_reducible rfl)
      try simp only [Act.put]
      refine wpAnyH_take (i := 22) (v := ?vyd22) rfl (by kernel_rfl) (by kernel_rfl) (by kernel_rfl) (fun _ _ _ h => h) (Or.inl ⟨by rfl, ?hyyd22⟩) (by exact hS2y) ?reyd22
      case hyyd22 => (intro ww hSw; (try dsimp only at hSw); go_simp; first | done | with_reducible rfl)
      try simp only [Act.put]
      refine wpAnyH_ready (rs := [48]) (by kernel_rfl) (by simp) ?_
      refine AllReadyH.cons rfl (fun Kye hKye => ?stye) AllReadyH.nil
      go_simp
      refine hKye.out _ _ ⟨(below_alloc (below_alloc (below_alloc HB))).drew, cell_alloc' _ c2hy.out, cell_alloc' _ c3hy.out⟩ (fun h3y => ?_)
      refine wpAnyH_take (i := 49) (v := ?vyf49) rfl (by kernel_rfl) (by kernel_rfl) (by kernel_rfl) (fun _ _ _ h => h) (Or.inl ⟨by rfl, ?hyyf49⟩) (by exact h3y) ?reyf49
      case hyyf49 => (intro ww hSw; (try dsimp only at hSw); go_simp; first | done | with_reducible rfl)
      try simp only [Act.put]
      refine wpAnyH_done (by kernel_rfl) ?_ _
      go_wp2_with fail
      go_meet
      exact ⟨rfl, rfl, rfl, (below_alloc (below_alloc (below_alloc HB))).drew, alloc_new' _ _ _ (by simp)⟩
    exact AllReadyH.nil
  case rest =>
    clear HB
    obtain ⟨rfl, rfl, rfl, HB, HS⟩ := hcut
    have HS := Lib.hid HS
    clear b1k b4k b5k b6k b7k b8k b1h b4h b5h b6h b7h b8h b9 b10 b11 hq1 hcv hq6 hq7 hq2k hq3k hq4k hq5k hq2h hq3h hq4h hq5h
    go_wp2_with fail
    go_loopw [94] (fun i wr => ∃ k2 : Nat, k2 ≤ 7 ∧ i = .int .i64 (k2 : Int) ∧ Below w.heap.size w wr ∧ wr.heap[w3.heap.size + 1 + 1]? = some (.cells #[.string few, .string ⟨R.toArray⟩, .string (⟨R.toArray⟩ ++ few), .string ((⟨R.toArray⟩ : ByteArray).extract 0 k), .string ((⟨R.toArray⟩ : ByteArray).extract 0 k ++ ⟨#[UInt8.ofNat by_.toNat]⟩ ++ (⟨R.toArray⟩ : ByteArray).extract (k + 1) R.length), .string ((⟨R.toArray⟩ : ByteArray).extract 0 h ++ ⟨#[UInt8.ofNat by_.toNat]⟩ ++ (⟨R.toArray⟩ : ByteArray).extract (h + 1) R.length), .string ((⟨R.toArray⟩ : ByteArray).extract 0 20 ++ few)] 9)) (fun i _ => 7 - (intOf i).toNat)
    case atStart => exact ⟨0, by omega, rfl, HB, HS.out⟩
    case round =>
      clear HB HS
      obtain ⟨k2, hk2, rfl, HB, HS⟩ := hrel
      obtain ⟨wo, rfl⟩ : ∃ wo : World, wo = wr := ⟨_, rfl⟩
      have HS := Lib.hid HS
      by_cases hlt : k2 < 7
      · obtain ⟨s, hsz, c0⟩ := cells7s HS.out (by omega) hfs k2 hlt
        have hlt_S := blk_lt HS.out; have hdk : decide ((k2 : Int) < 7) = true := by simp; omega
        obtain ⟨p1, n1, HD, HR⟩ := dec_both s hsz
        obtain ⟨p2, n2, HDh, HRh⟩ := dech_both s hsz
        go_wp2_with fail
        clear c0
        refine (HD.out _).mono ?_
        rintro e w4 ⟨rfl, hb⟩
        have HS' := Lib.hid (bblock hb HS.out); clear HS; have HS := HS'; clear HS'
        have HB' := below_call HB hb; clear HB hb; have HB := HB'; clear HB'; have hz4 := HB.size
        have lt_S_4 := blk_lt HS.out
        have Ha := Lib.hid (alloc_new' w4 (.cells #[.int .i64 p1.f, .int .i64 p1.t, .int .i64 p1.pr, .int .i64 p1.ttl, .int .i64 p1.id, .bool p1.df, .bool p1.mf, .int .i64 p1.off, .string p1.s] 26) (w4.heap.size) (by simp))
        have HS' := Lib.hid (block_alloc HS.out (.cells #[.int .i64 p1.f, .int .i64 p1.t, .int .i64 p1.pr, .int .i64 p1.ttl, .int .i64 p1.id, .bool p1.df, .bool p1.mf, .int .i64 p1.off, .string p1.s] 26)); clear HS; have HS := HS'; clear HS'
        have HB' := below_alloc (o := .cells #[.int .i64 p1.f, .int .i64 p1.t, .int .i64 p1.pr, .int .i64 p1.ttl, .int .i64 p1.id, .bool p1.df, .bool p1.mf, .int .i64 p1.off, .string p1.s] 26) HB; clear HB; have HB := HB'; clear HB'
        go_wp2_with fail
        refine (HR.out _).mono ?_
        rintro e w5 ⟨rfl, hb⟩
        have HS' := Lib.hid (bblock hb HS.out); clear HS; have HS := HS'; clear HS'
        have Ha' := Lib.hid (bblock hb Ha.out); clear Ha; have Ha := Ha'; clear Ha'
        have HB' := below_call HB hb; clear HB hb; have HB := HB'; clear HB'; have hz5 := HB.size
        have lt_S_5 := blk_lt HS.out
        have lt_a_5 := blk_lt Ha.out
        have Hb := Lib.hid (alloc_new' w5 (.cells #[.int .i64 p1.f, .int .i64 p1.t, .int .i64 p1.pr, .int .i64 p1.ttl, .int .i64 p1.id, .bool p1.df, .bool p1.mf, .int .i64 p1.off, .string p1.s] 26) (w5.heap.size) (by simp))
        have HS' := Lib.hid (block_alloc HS.out (.cells #[.int .i64 p1.f, .int .i64 p1.t, .int .i64 p1.pr, .int .i64 p1.ttl, .int .i64 p1.id, .bool p1.df, .bool p1.mf, .int .i64 p1.off, .string p1.s] 26)); clear HS; have HS := HS'; clear HS'
        have Ha' := Lib.hid (block_alloc Ha.out (.cells #[.int .i64 p1.f, .int .i64 p1.t, .int .i64 p1.pr, .int .i64 p1.ttl, .int .i64 p1.id, .bool p1.df, .bool p1.mf, .int .i64 p1.off, .string p1.s] 26)); clear Ha; have Ha := Ha'; clear Ha'
        have HB' := below_alloc (o := .cells #[.int .i64 p1.f, .int .i64 p1.t, .int .i64 p1.pr, .int .i64 p1.ttl, .int .i64 p1.id, .bool p1.df, .bool p1.mf, .int .i64 p1.off, .string p1.s] 26) HB; clear HB; have HB := HB'; clear HB'
        go_wp2_with fail
        refine (HDh.out _).mono ?_
        rintro e w6 ⟨rfl, hb⟩
        have HS' := Lib.hid (bblock hb HS.out); clear HS; have HS := HS'; clear HS'
        have Ha' := Lib.hid (bblock hb Ha.out); clear Ha; have Ha := Ha'; clear Ha'
        have Hb' := Lib.hid (bblock hb Hb.out); clear Hb; have Hb := Hb'; clear Hb'
        have HB' := below_call HB hb; clear HB hb; have HB := HB'; clear HB'; have hz6 := HB.size
        have lt_S_6 := blk_lt HS.out
        have lt_a_6 := blk_lt Ha.out
        have lt_b_6 := blk_lt Hb.out
        have Hc := Lib.hid (alloc_new' w6 (.cells #[.int .i64 p2.f, .int .i64 p2.t, .int .i64 p2.pr, .int .i64 p2.ttl, .int .i64 p2.id, .bool p2.df, .bool p2.mf, .int .i64 p2.off, .string p2.s] 26) (w6.heap.size) (by simp))
        have HS' := Lib.hid (block_alloc HS.out (.cells #[.int .i64 p2.f, .int .i64 p2.t, .int .i64 p2.pr, .int .i64 p2.ttl, .int .i64 p2.id, .bool p2.df, .bool p2.mf, .int .i64 p2.off, .string p2.s] 26)); clear HS; have HS := HS'; clear HS'
        have Ha' := Lib.hid (block_alloc Ha.out (.cells #[.int .i64 p2.f, .int .i64 p2.t, .int .i64 p2.pr, .int .i64 p2.ttl, .int .i64 p2.id, .bool p2.df, .bool p2.mf, .int .i64 p2.off, .string p2.s] 26)); clear Ha; have Ha := Ha'; clear Ha'
        have Hb' := Lib.hid (block_alloc Hb.out (.cells #[.int .i64 p2.f, .int .i64 p2.t, .int .i64 p2.pr, .int .i64 p2.ttl, .int .i64 p2.id, .bool p2.df, .bool p2.mf, .int .i64 p2.off, .string p2.s] 26)); clear Hb; have Hb := Hb'; clear Hb'
        have HB' := below_alloc (o := .cells #[.int .i64 p2.f, .int .i64 p2.t, .int .i64 p2.pr, .int .i64 p2.ttl, .int .i64 p2.id, .bool p2.df, .bool p2.mf, .int .i64 p2.off, .string p2.s] 26) HB; clear HB; have HB := HB'; clear HB'
        go_wp2_with fail
        refine (HRh.out _).mono ?_
        rintro e w7 ⟨rfl, hb⟩
        have HS' := Lib.hid (bblock hb HS.out); clear HS; have HS := HS'; clear HS'
        have Ha' := Lib.hid (bblock hb Ha.out); clear Ha; have Ha := Ha'; clear Ha'
        have Hb' := Lib.hid (bblock hb Hb.out); clear Hb; have Hb := Hb'; clear Hb'
        have Hc' := Lib.hid (bblock hb Hc.out); clear Hc; have Hc := Hc'; clear Hc'
        have HB' := below_call HB hb; clear HB hb; have HB := HB'; clear HB'; have hz7 := HB.size
        have lt_S_7 := blk_lt HS.out
        have lt_a_7 := blk_lt Ha.out
        have lt_b_7 := blk_lt Hb.out
        have lt_c_7 := blk_lt Hc.out
        have Hd := Lib.hid (alloc_new' w7 (.cells #[.int .i64 p2.f, .int .i64 p2.t, .int .i64 p2.pr, .int .i64 p2.ttl, .int .i64 p2.id, .bool p2.df, .bool p2.mf, .int .i64 p2.off, .string p2.s] 26) (w7.heap.size) (by simp))
        have HS' := Lib.hid (block_alloc HS.out (.cells #[.int .i64 p2.f, .int .i64 p2.t, .int .i64 p2.pr, .int .i64 p2.ttl, .int .i64 p2.id, .bool p2.df, .bool p2.mf, .int .i64 p2.off, .string p2.s] 26)); clear HS; have HS := HS'; clear HS'
        have Ha' := Lib.hid (block_alloc Ha.out (.cells #[.int .i64 p2.f, .int .i64 p2.t, .int .i64 p2.pr, .int .i64 p2.ttl, .int .i64 p2.id, .bool p2.df, .bool p2.mf, .int .i64 p2.off, .string p2.s] 26)); clear Ha; have Ha := Ha'; clear Ha'
        have Hb' := Lib.hid (block_alloc Hb.out (.cells #[.int .i64 p2.f, .int .i64 p2.t, .int .i64 p2.pr, .int .i64 p2.ttl, .int .i64 p2.id, .bool p2.df, .bool p2.mf, .int .i64 p2.off, .string p2.s] 26)); clear Hb; have Hb := Hb'; clear Hb'
        have Hc' := Lib.hid (block_alloc Hc.out (.cells #[.int .i64 p2.f, .int .i64 p2.t, .int .i64 p2.pr, .int .i64 p2.ttl, .int .i64 p2.id, .bool p2.df, .bool p2.mf, .int .i64 p2.off, .string p2.s] 26)); clear Hc; have Hc := Hc'; clear Hc'
        have HB' := below_alloc (o := .cells #[.int .i64 p2.f, .int .i64 p2.t, .int .i64 p2.pr, .int .i64 p2.ttl, .int .i64 p2.id, .bool p2.df, .bool p2.mf, .int .i64 p2.off, .string p2.s] 26) HB; clear HB; have HB := HB'; clear HB'
        have Sa := cells9 Ha.out
        obtain ⟨⟨qa0, qa1, qa2, qa3, qa4, qa5, qa6, qa7, qa8⟩, za0, za1, za2, za3, za4, za5, za6, za7, za8⟩ := Sa
        have lt_a := blk_lt Ha.out
        have Sb := cells9 Hb.out
        obtain ⟨⟨qb0, qb1, qb2, qb3, qb4, qb5, qb6, qb7, qb8⟩, zb0, zb1, zb2, zb3, zb4, zb5, zb6, zb7, zb8⟩ := Sb
        have lt_b := blk_lt Hb.out
        have Sc := cells9 Hc.out
        obtain ⟨⟨qc0, qc1, qc2, qc3, qc4, qc5, qc6, qc7, qc8⟩, zc0, zc1, zc2, zc3, zc4, zc5, zc6, zc7, zc8⟩ := Sc
        have lt_c := blk_lt Hc.out
        have Sd := cells9 Hd.out
        obtain ⟨⟨qd0, qd1, qd2, qd3, qd4, qd5, qd6, qd7, qd8⟩, zd0, zd1, zd2, zd3, zd4, zd5, zd6, zd7, zd8⟩ := Sd
        have lt_d := blk_lt Hd.out
        have hN1 : (n1 != n1) = false := by simp
        have hN2 : (n2 != n2) = false := by simp
        go_wp2_with fail
        go_roundw
        case rel => first | exact ⟨k2 + 1, by omega, by go_num, HB, HS.out⟩ | ((repeat apply Exists.intro); exact ⟨⟨k2 + 1, by omega, by go_num, HB, HS.out⟩, rfl⟩)
        case measure => simp [intOf]; omega
      · go_wp2_with fail
        go_ret
        exact ⟨rfl, HB⟩
end Go.Proofs.Ytabfihknhbfjeaa.Ip
