/-
  The walk of the law UDPPayload.
-/
import Derived.Test.YteaihpiilimkcaaUdpSane
import Derived.BigQuiet
import Derived.Deep.QuietTactic
namespace Go.Proofs.Yteaihpiilimkcaa.Udp
open Go.RowKit Go.Proofs.Yteaihpiilimkcaa.Wire Go.Proofs.Yteaihpiilimkcaa.Gen

theorem extract_from (l : List UInt8) (k : Nat) (_ : k ≤ l.length) : ((⟨l.toArray⟩ : ByteArray).extract k l.length).toList = l.drop k := by
  rw [ByteArray.toList_eq]; exact extract_tail l k
theorem extract_to (l : List UInt8) (k : Nat) : ((⟨l.toArray⟩ : ByteArray).extract 0 k).toList = l.take k := by
  rw [ByteArray.toList_eq]; simp [ByteArray.data_extract]

set_option maxRecDepth 100000 in
set_option maxHeartbeats 4000000 in
theorem payload_walk (x0 x1 x2 x3 x4 y0 y1 y2 y3 y4 fx tx fy ty : Int) (xs ys : ByteArray) (lx ly R1 R2 R3 : List UInt8) (w : World) (hx0 : -9223372036854775808 ≤ x0 ∧ x0 ≤ 9223372036854775807) (hx1 : -9223372036854775808 ≤ x1 ∧ x1 ≤ 9223372036854775807) (hx2 : -9223372036854775808 ≤ x2 ∧ x2 ≤ 9223372036854775807) (hx3 : -9223372036854775808 ≤ x3 ∧ x3 ≤ 9223372036854775807) (hx4 : -9223372036854775808 ≤ x4 ∧ x4 ≤ 9223372036854775807) (hy0 : -9223372036854775808 ≤ y0 ∧ y0 ≤ 9223372036854775807) (hy1 : -9223372036854775808 ≤ y1 ∧ y1 ≤ 9223372036854775807) (hy2 : -9223372036854775808 ≤ y2 ∧ y2 ≤ 9223372036854775807) (hy3 : -9223372036854775808 ≤ y3 ∧ y3 ≤ 9223372036854775807) (hy4 : -9223372036854775808 ≤ y4 ∧ y4 ≤ 9223372036854775807)
    (hcase : ((fx == fy) = false ∧ (R1 == R2) = false) ∨ ((fx == fy) = true ∧ (tx == ty) = false ∧ (R1 == R2) = false) ∨ ((fx == fy) = true ∧ (tx == ty) = true ∧ (lx == ly) = false ∧ (R1 == R2) = false) ∨ ((fx == fy) = true ∧ (tx == ty) = true ∧ (lx == ly) = true ∧ (R1 == R2) = true))
    (g1 : 8 ≤ R1.length) (g2 : 8 ≤ R3.length) (g3 : ((R3.length : Int) == (R1.length : Int)) = true) (g4 : (R1.drop 8 == lx) = true) (g5 : (R3.drop 8 == lx) = true) (g6 : (R3.take 6 == R1.take 6) = true) (g7 : R1.length ≤ 1000000) (g8 : R3.length ≤ 1000000)
    (hx : ∀ w, Calls Try.prog 8 #[.agg #[.int .i64 x0, .int .i64 x1, .int .i64 x2, .int .i64 x3, .int .i64 x4, .string xs]] w fun e w' => e = .returned (.agg #[.int .i64 fx, .int .i64 tx, .string ⟨lx.toArray⟩]) ∧ Below w.heap.size w w')
    (hy : ∀ w, Calls Try.prog 8 #[.agg #[.int .i64 y0, .int .i64 y1, .int .i64 y2, .int .i64 y3, .int .i64 y4, .string ys]] w fun e w' => e = .returned (.agg #[.int .i64 fy, .int .i64 ty, .string ⟨ly.toArray⟩]) ∧ Below w.heap.size w w')
    (he1 : ∀ w, Calls Try.prog 12 #[.int .i64 1, .int .i64 2, .agg #[.int .i64 fx, .int .i64 tx, .string ⟨lx.toArray⟩]] w fun e w' => e = .returned (.tuple #[.string ⟨R1.toArray⟩, .int .i64 0]) ∧ Below w.heap.size w w')
    (he2 : ∀ w, Calls Try.prog 12 #[.int .i64 1, .int .i64 2, .agg #[.int .i64 fy, .int .i64 ty, .string ⟨ly.toArray⟩]] w fun e w' => e = .returned (.tuple #[.string ⟨R2.toArray⟩, .int .i64 0]) ∧ Below w.heap.size w w')
    (he3 : ∀ w, Calls Try.prog 12 #[.int .i64 (addrOf x0), .int .i64 (addrOf x1), .agg #[.int .i64 fx, .int .i64 tx, .string ⟨lx.toArray⟩]] w fun e w' => e = .returned (.tuple #[.string ⟨R3.toArray⟩, .int .i64 0]) ∧ Below w.heap.size w w') :
    Calls Try.prog 6 #[.agg #[.int .i64 x0, .int .i64 x1, .int .i64 x2, .int .i64 x3, .int .i64 x4, .string xs], .agg #[.int .i64 y0, .int .i64 y1, .int .i64 y2, .int .i64 y3, .int .i64 y4, .string ys]] w fun e w' => e = .returned (.bool true) ∧ Below w.heap.size w w' := by
  have HX := Lib.hid hx
  have HY := Lib.hid hy
  have HE1 := Lib.hid he1
  have HE2 := Lib.hid he2
  have HE3 := Lib.hid he3
  clear hx hy he1 he2 he3
  have HB := Below.refl w.heap.size w
  go_enter Try.func6, Try.ntmps6
  have Hx := Lib.hid (alloc_new' w (.cells #[.int .i64 x0, .int .i64 x1, .int .i64 x2, .int .i64 x3, .int .i64 x4, .string xs] 23) (w.heap.size) (by simp))
  have HB' := below_alloc (o := .cells #[.int .i64 x0, .int .i64 x1, .int .i64 x2, .int .i64 x3, .int .i64 x4, .string xs] 23) HB; clear HB; have HB := HB'; clear HB'
  have Hy := Lib.hid (alloc_new' (w.alloc (.cells #[.int .i64 x0, .int .i64 x1, .int .i64 x2, .int .i64 x3, .int .i64 x4, .string xs] 23)) (.cells #[.int .i64 y0, .int .i64 y1, .int .i64 y2, .int .i64 y3, .int .i64 y4, .string ys] 23) (w.heap.size + 1) (by simp))
  have Hx' := Lib.hid (block_alloc Hx.out (.cells #[.int .i64 y0, .int .i64 y1, .int .i64 y2, .int .i64 y3, .int .i64 y4, .string ys] 23)); clear Hx; have Hx := Hx'; clear Hx'
  have HB' := below_alloc (o := .cells #[.int .i64 y0, .int .i64 y1, .int .i64 y2, .int .i64 y3, .int .i64 y4, .string ys] 23) HB; clear HB; have HB := HB'; clear HB'
  go_wp2_with fail
  refine (sane_any _).mono ?_
  rintro e w1 ⟨rfl, hb⟩
  have Hx' := Lib.hid (bblock hb Hx.out); clear Hx; have Hx := Hx'; clear Hx'
  have Hy' := Lib.hid (bblock hb Hy.out); clear Hy; have Hy := Hy'; clear Hy'
  have HB' := below_call HB hb; clear HB hb; have HB := HB'; clear HB'
  have Sx := cells6 Hx.out
  obtain ⟨⟨qx0, qx1, qx2, qx3, qx4, qx5⟩, zx0, zx1, zx2, zx3, zx4, zx5⟩ := Sx
  go_wp2_with fail
  refine (HX.out _).mono ?_
  rintro e w2 ⟨rfl, hb⟩
  clear qx0 zx0 qx1 zx1 qx2 zx2 qx3 zx3 qx4 zx4 qx5 zx5
  have Hx' := Lib.hid (bblock hb Hx.out); clear Hx; have Hx := Hx'; clear Hx'
  have Hy' := Lib.hid (bblock hb Hy.out); clear Hy; have Hy := Hy'; clear Hy'
  have HB' := below_call HB hb; clear HB hb; have HB := HB'; clear HB'
  have Hu := Lib.hid (alloc_new' w2 (.cells #[.int .i64 fx, .int .i64 tx, .string ⟨lx.toArray⟩] 26) (w2.heap.size) (by simp))
  have Hx' := Lib.hid (block_alloc Hx.out (.cells #[.int .i64 fx, .int .i64 tx, .string ⟨lx.toArray⟩] 26)); clear Hx; have Hx := Hx'; clear Hx'
  have Hy' := Lib.hid (block_alloc Hy.out (.cells #[.int .i64 fx, .int .i64 tx, .string ⟨lx.toArray⟩] 26)); clear Hy; have Hy := Hy'; clear Hy'
  have HB' := below_alloc (o := .cells #[.int .i64 fx, .int .i64 tx, .string ⟨lx.toArray⟩] 26) HB; clear HB; have HB := HB'; clear HB'
  have Sy := cells6 Hy.out
  obtain ⟨⟨qy0, qy1, qy2, qy3, qy4, qy5⟩, zy0, zy1, zy2, zy3, zy4, zy5⟩ := Sy
  go_wp2_with fail
  refine (HY.out _).mono ?_
  rintro e w3 ⟨rfl, hb⟩
  clear qy0 zy0 qy1 zy1 qy2 zy2 qy3 zy3 qy4 zy4 qy5 zy5
  have Hx' := Lib.hid (bblock hb Hx.out); clear Hx; have Hx := Hx'; clear Hx'
  have Hy' := Lib.hid (bblock hb Hy.out); clear Hy; have Hy := Hy'; clear Hy'
  have Hu' := Lib.hid (bblock hb Hu.out); clear Hu; have Hu := Hu'; clear Hu'
  have HB' := below_call HB hb; clear HB hb; have HB := HB'; clear HB'
  have Hv := Lib.hid (alloc_new' w3 (.cells #[.int .i64 fy, .int .i64 ty, .string ⟨ly.toArray⟩] 26) (w3.heap.size) (by simp))
  have Hx' := Lib.hid (block_alloc Hx.out (.cells #[.int .i64 fy, .int .i64 ty, .string ⟨ly.toArray⟩] 26)); clear Hx; have Hx := Hx'; clear Hx'
  have Hy' := Lib.hid (block_alloc Hy.out (.cells #[.int .i64 fy, .int .i64 ty, .string ⟨ly.toArray⟩] 26)); clear Hy; have Hy := Hy'; clear Hy'
  have Hu' := Lib.hid (block_alloc Hu.out (.cells #[.int .i64 fy, .int .i64 ty, .string ⟨ly.toArray⟩] 26)); clear Hu; have Hu := Hu'; clear Hu'
  have HB' := below_alloc (o := .cells #[.int .i64 fy, .int .i64 ty, .string ⟨ly.toArray⟩] 26) HB; clear HB; have HB := HB'; clear HB'
  have Su := cells3 Hu.out
  obtain ⟨⟨qu0, qu1, qu2⟩, zu0, zu1, zu2⟩ := Su
  go_wp2_with fail
  refine (HE1.out _).mono ?_
  rintro e w4 ⟨rfl, hb⟩
  clear qu0 zu0 qu1 zu1 qu2 zu2
  have Hx' := Lib.hid (bblock hb Hx.out); clear Hx; have Hx := Hx'; clear Hx'
  have Hy' := Lib.hid (bblock hb Hy.out); clear Hy; have Hy := Hy'; clear Hy'
  have Hu' := Lib.hid (bblock hb Hu.out); clear Hu; have Hu := Hu'; clear Hu'
  have Hv' := Lib.hid (bblock hb Hv.out); clear Hv; have Hv := Hv'; clear Hv'
  have HB' := below_call HB hb; clear HB hb; have HB := HB'; clear HB'
  have Sv := cells3 Hv.out
  obtain ⟨⟨qv0, qv1, qv2⟩, zv0, zv1, zv2⟩ := Sv
  go_wp2_with fail
  refine (HE2.out _).mono ?_
  rintro e w5 ⟨rfl, hb⟩
  clear qv0 zv0 qv1 zv1 qv2 zv2
  have Hx' := Lib.hid (bblock hb Hx.out); clear Hx; have Hx := Hx'; clear Hx'
  have Hy' := Lib.hid (bblock hb Hy.out); clear Hy; have Hy := Hy'; clear Hy'
  have Hu' := Lib.hid (bblock hb Hu.out); clear Hu; have Hu := Hu'; clear Hu'
  have Hv' := Lib.hid (bblock hb Hv.out); clear Hv; have Hv := Hv'; clear Hv'
  have HB' := below_call HB hb; clear HB hb; have HB := HB'; clear HB'
  have Sx := cells6 Hx.out
  obtain ⟨⟨qx0, qx1, qx2, qx3, qx4, qx5⟩, zx0, zx1, zx2, zx3, zx4, zx5⟩ := Sx
  have Su := cells3 Hu.out
  obtain ⟨⟨qu0, qu1, qu2⟩, zu0, zu1, zu2⟩ := Su
  go_wp2_with fail
  have Sv := cells3 Hv.out
  obtain ⟨⟨qv0, qv1, qv2⟩, zv0, zv1, zv2⟩ := Sv
  go_region_held3 (fun w' => w'.cell? ⟨w.heap.size, 0, none⟩ = some (.int .i64 x0) ∧ w'.cell? ⟨w.heap.size, 1, none⟩ = some (.int .i64 x1) ∧ w'.cell? ⟨w2.heap.size, 0, none⟩ = some (.int .i64 fx) ∧ w'.cell? ⟨w2.heap.size, 1, none⟩ = some (.int .i64 tx) ∧ w'.cell? ⟨w2.heap.size, 2, none⟩ = some (.string ⟨lx.toArray⟩) ∧ w'.cell? ⟨w3.heap.size, 0, none⟩ = some (.int .i64 fy) ∧ w'.cell? ⟨w3.heap.size, 1, none⟩ = some (.int .i64 ty) ∧ w'.cell? ⟨w3.heap.size, 2, none⟩ = some (.string ⟨ly.toArray⟩) ∧ Below w.heap.size w w') (first | exact ⟨qx0, qx1, qu0, qu1, qu2, qv0, qv1, qv2, HB.drew⟩ | (go_split_ands; exact ⟨by assumption, by assumption, by assumption, by assumption, by assumption, by assumption, by assumption, by assumption, by assumption⟩) | (go_split_ands; exact ⟨bcell (by assumption) (by assumption), bcell (by assumption) (by assumption), bcell (by assumption) (by assumption), bcell (by assumption) (by assumption), bcell (by assumption) (by assumption), bcell (by assumption) (by assumption), bcell (by assumption) (by assumption), bcell (by assumption) (by assumption), below_call (by assumption) (by assumption)⟩))
    (first | (go_at_call 11; refine (addressFrom_any _ _ (by omega) (by omega)).mono ?_; rintro e w8 ⟨rfl, rfl⟩) | (go_at_call 12; refine (HE3.out _).mono ?_; rintro e w9 ⟨rfl, hb9⟩))
  rename_i hH
  obtain ⟨qx0, qx1, qu0, qu1, qu2, qv0, qv1, qv2, HB⟩ := hH
  clear hb9
  go_wp2_with fail
  clear qx0 qx1 Hx Hy Hu Hv
  have aR16 : (6 : Int) ≤ (R1.length : Int) := by omega
  have dR16 : decide ((6 : Int) ≤ (R1.length : Int)) = true := by simp; omega
  have nR16 : 6 ≤ R1.length := by omega
  have aR18 : (8 : Int) ≤ (R1.length : Int) := by omega
  have dR18 : decide ((8 : Int) ≤ (R1.length : Int)) = true := by simp; omega
  have nR18 : 8 ≤ R1.length := by omega
  have aR36 : (6 : Int) ≤ (R3.length : Int) := by omega
  have dR36 : decide ((6 : Int) ≤ (R3.length : Int)) = true := by simp; omega
  have nR36 : 6 ≤ R3.length := by omega
  have aR38 : (8 : Int) ≤ (R3.length : Int) := by omega
  have dR38 : decide ((8 : Int) ≤ (R3.length : Int)) = true := by simp; omega
  have nR38 : 8 ≤ R3.length := by omega
  have x1 : ((⟨R1.toArray⟩ : ByteArray).extract 8 R1.length).toList = lx := by rw [extract_from _ _ g1]; simpa using g4
  have x3 : ((⟨R3.toArray⟩ : ByteArray).extract 8 R3.length).toList = lx := by rw [extract_from _ _ g2]; simpa using g5
  have x6 : ((⟨R3.toArray⟩ : ByteArray).extract 0 6).toList = ((⟨R1.toArray⟩ : ByteArray).extract 0 6).toList := by rw [extract_to, extract_to]; simpa using g6
  rcases hcase with ⟨e1, e4⟩ | ⟨e1, e2, e4⟩ | ⟨e1, e2, e3, e4⟩ | ⟨e1, e2, e3, e4⟩
  all_goals
    go_quiet (fail)
    go_wp2_with fail
    go_ret
    exact ⟨rfl, below_drewN HB _⟩

end Go.Proofs.Yteaihpiilimkcaa.Udp
