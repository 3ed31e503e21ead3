/-
  The walk of the law DNSDecodesLikeReference.
-/
import Derived.Test.YthdggmigjddneaaDnLaw0
import Derived.Test.YthdggmigjddneaaDnRdec
import Derived.IntWalk
namespace Go.Proofs.Ythdggmigjddneaa.Dn
set_option maxRecDepth 100000
open Go.RowKit Go.Proofs.Ythdggmigjddneaa.Wire Go.Proofs.Ythdggmigjddneaa.Rw

theorem rencL (d : Msg) (h : msgB d = true) (A : Option Addr) (c lo : Nat) (W : World) (hr : RRow W lo A c d.recs) : Calls Try.prog 16 #[.agg #[.int .i64 d.id, .bool d.ans, .int .i64 d.code, .string ⟨d.nm.toArray⟩, .int .i64 d.kd, .slice A d.recs.length c]] W fun e w' => e = .returned (.tuple #[.string ⟨(enc d).toArray⟩, .int .i64 0]) ∧ Below W.heap.size W w' := rencode_ok d A c lo W (ok_fits h) hr h
/-- what a Decode returns: some message and an error -/
def DcP (d : Msg) (en : Int) (w : World) (e : Ending) (w' : World) : Prop := (∃ (A : Option Addr) (c : Nat), e = .returned (.tuple #[.agg #[.int .i64 d.id, .bool d.ans, .int .i64 d.code, .string ⟨d.nm.toArray⟩, .int .i64 d.kd, .slice A d.recs.length c], .int .i64 en]) ∧ RRow w' w.heap.size A c d.recs) ∧ Below w.heap.size w w'
theorem dcp_of {s : ByteArray} {w w' : World} {e : Ending} (h : DecPost s w e w') : DcP ((decD s.data.toList).getD ⟨0, false, 0, [], 0, []⟩) (if (decD s.data.toList).isSome then 0 else 190) w e w' := by
  obtain ⟨hb, ⟨h1, h2⟩ | ⟨d, A, c, h1, h2, -, h4⟩⟩ := h
  · rw [h1]; exact ⟨⟨none, 0, h2, SRow.nil _ _ _ _ _⟩, hb⟩
  · rw [h1]; exact ⟨⟨A, c, h2, h4⟩, hb⟩
theorem dec_len {s : List UInt8} : ((decD s).getD ⟨0, false, 0, [], 0, []⟩).recs.length ≤ 8 := by
  cases e : decD s with
  | none => simp
  | some d => exact ((msgB_iff d).1 ((decD_iff s d).1 e).1).2.2.2.1
theorem dec_both (t : ByteArray) (ht : t.size ≤ 1000000) : ∃ (d : Msg) (en : Int), d.recs.length ≤ 8 ∧ (∀ w, Calls Try.prog 21 #[.string t] w (DcP d en w)) ∧ ∀ w, Calls Try.prog 22 #[.string t] w (DcP d en w) :=
  ⟨_, _, dec_len, fun w => (decode_any t w ht).mono fun _ _ h => dcp_of h, fun w => (rdecode_any t w ht).mono fun _ _ h => dcp_of h⟩
theorem bsz (l : List UInt8) : (⟨l.toArray⟩ : ByteArray).size = l.length := rfl
theorem cells8s {W : World} {bk k k1 k6 : Nat} {E : List UInt8} {few : ByteArray} {by_ : Int} (hb : W.heap[bk]? = some (.cells #[.string few, .string ⟨E.toArray⟩, .string ((⟨E.toArray⟩ : ByteArray).extract 0 k), .string ((⟨E.toArray⟩ : ByteArray).extract 0 k ++ ⟨#[UInt8.ofNat by_.toNat]⟩ ++ (⟨E.toArray⟩ : ByteArray).extract k E.length), .string ((⟨E.toArray⟩ : ByteArray).extract 0 k ++ ⟨#[UInt8.ofNat by_.toNat]⟩ ++ (⟨E.toArray⟩ : ByteArray).extract k1 E.length), .string ((⟨E.toArray⟩ : ByteArray).extract 0 k ++ (⟨E.toArray⟩ : ByteArray).extract k1 E.length), .string (⟨E.toArray⟩ ++ few), .string ((⟨E.toArray⟩ : ByteArray).extract 0 k6 ++ few)] 9)) (hE : E.length ≤ 1100) (hf : few.size ≤ 300) (j : Nat) (hj : j < 8) :
    ∃ s : ByteArray, s.size ≤ 1000000 ∧ W.cell? ⟨bk, j, none⟩ = some (.string s) := by
  match j, hj with
  | 0, _ => exact ⟨_, by omega, (cell_of_block hb rfl).1⟩
  | 1, _ => exact ⟨_, by simp only [bsz]; omega, (cell_of_block hb rfl).1⟩
  | 2, _ => exact ⟨_, by simp only [bsz, ByteArray.size_extract]; omega, (cell_of_block hb rfl).1⟩
  | 3, _ => exact ⟨_, by first | (simp only [bsz, ByteArray.size_append, ByteArray.size_extract]; omega) | (simp [ByteArray.size, ByteArray.size_append, ByteArray.size_extract]; omega), (cell_of_block hb rfl).1⟩
  | 4, _ => exact ⟨_, by first | (simp only [bsz, ByteArray.size_append, ByteArray.size_extract]; omega) | (simp [ByteArray.size, ByteArray.size_append, ByteArray.size_extract]; omega), (cell_of_block hb rfl).1⟩
  | 5, _ => exact ⟨_, by first | (simp only [bsz, ByteArray.size_append, ByteArray.size_extract]; omega) | (simp [ByteArray.size, ByteArray.size_append, ByteArray.size_extract]; omega), (cell_of_block hb rfl).1⟩
  | 6, _ => exact ⟨_, by simp only [bsz, ByteArray.size_append]; omega, (cell_of_block hb rfl).1⟩
  | 7, _ => exact ⟨_, by first | (simp only [bsz, ByteArray.size_append, ByteArray.size_extract]; omega) | (simp [ByteArray.size, ByteArray.size_append, ByteArray.size_extract]; omega), (cell_of_block hb rfl).1⟩
set_option maxHeartbeats 40000000 in
theorem law32_any (x : DR) (s : ByteArray) (at_ by_ : Int) (Ax : Option Addr) (nx cx : Nat) (w : World) (hx : x.ok) (hAx : RArg w Ax nx x.recs) (hs : s.size ≤ 9223372036854775807) (hat : In64 at_) :
    Calls Try.prog 4 #[.agg #[.int .i64 x.id, .bool x.ans, .int .i64 x.code, .int .i64 x.nm, .bool x.alias, .slice Ax nx cx], .string s, .int .i64 at_, .int .u8 by_] w fun e w' => e = .returned (.bool true) ∧ Below w.heap.size w w' := by
  have HAx := Lib.hid hAx; clear hAx
  have HX := Lib.hid fun W h => dnsL x Ax nx cx W hx h
  have ok1 := dnsOf_ok x
  generalize dnsOf x = d1 at *
  have HE := Lib.hid fun (A : Option Addr) (c lo : Nat) (W : World) (h : RRow W lo A c d1.recs) => rencL d1 ok1 A c lo W h
  have hln := enc_len d1 ok1
  generalize enc d1 = E at *
  have hpk := pick_lt at_ ((E.length : Int) + 1) (by omega)
  have HK := Lib.hid fun W => pick_any at_ ((E.length : Int) + 1) W hat (by omega) (by omega)
  have hw0 : IntKind.i64.wrap ((E.length : Int) + 1) = (E.length : Int) + 1 := IntWalk.i64_in _ (by omega)
  obtain ⟨k, hk⟩ := Int.eq_ofNat_of_zero_le hpk.1
  rw [hk] at HK hpk; clear hk hx hat ok1
  have HB := Below.refl w.heap.size w
  have Hx := Lib.hid (alloc_new' w (.cells #[.int .i64 x.id, .bool x.ans, .int .i64 x.code, .int .i64 x.nm, .bool x.alias, .slice Ax nx cx] 24) (w.heap.size) (by simp))
  have HAx' := Lib.hid (HAx.out.alloc (.cells #[.int .i64 x.id, .bool x.ans, .int .i64 x.code, .int .i64 x.nm, .bool x.alias, .slice Ax nx cx] 24)); clear HAx; have HAx := HAx'; clear HAx'
  have HB' := below_alloc (o := .cells #[.int .i64 x.id, .bool x.ans, .int .i64 x.code, .int .i64 x.nm, .bool x.alias, .slice Ax nx cx] 24) HB; clear HB; have HB := HB'; clear HB'
  go_enter Try.func4, Try.ntmps4
  go_wp2_with fail
  refine (examples_any _).mono ?_
  rintro e w1 ⟨rfl, hb⟩
  have Hx' := Lib.hid (bblock hb Hx.out); clear Hx; have Hx := Hx'; clear Hx'
  have HAx' := Lib.hid (HAx.out.below hb); clear HAx; have HAx := HAx'; clear HAx'
  have HB' := below_call HB hb; clear HB hb; have HB := HB'; clear HB'; have hz1 := HB.size
  have lt_x_1 := blk_lt Hx.out
  have Sx := cells6 Hx.out
  obtain ⟨⟨qx0, qx1, qx2, qx3, qx4, qx5⟩, zx0, zx1, zx2, zx3, zx4, zx5⟩ := Sx
  have lt_x := blk_lt Hx.out
  go_wp2_with fail
  refine (HX.out _ HAx.out).mono ?_
  rintro e w2 ⟨A1, c1, rfl, hr1, hb⟩
  clear qx0 zx0 qx1 zx1 qx2 zx2 qx3 zx3 qx4 zx4 qx5 zx5
  have Hx' := Lib.hid (bblock hb Hx.out); clear Hx; have Hx := Hx'; clear Hx'
  have HAx' := Lib.hid (HAx.out.below hb); clear HAx; have HAx := HAx'; clear HAx'
  have HB' := below_call HB hb; clear HB hb; have HB := HB'; clear HB'; have hz2 := HB.size
  have lt_x_2 := blk_lt Hx.out
  have Hr1 := Lib.hid hr1; clear hr1
  go_wp2_with fail
  refine (HE.out _ _ _ _ Hr1.out).mono ?_
  rintro e w3 ⟨rfl, hb⟩
  have Hx' := Lib.hid (bblock hb Hx.out); clear Hx; have Hx := Hx'; clear Hx'
  have HAx' := Lib.hid (HAx.out.below hb); clear HAx; have HAx := HAx'; clear HAx'
  have Hr1' := Lib.hid (Hr1.out.below hb); clear Hr1; have Hr1 := Hr1'; clear Hr1'
  have HB' := below_call HB hb; clear HB hb; have HB := HB'; clear HB'; have hz3 := HB.size
  have lt_x_3 := blk_lt Hx.out
  clear Hr1 HAx HX HE Hx
  go_wp2_with fail
  refine (HK.out _).mono ?_
  rintro e w' ⟨rfl, rfl⟩
  have hmn : (0 : Int) ≤ min (s.size : Int) 300 := by omega
  have hmm : min (s.size : Int) 300 ≤ (s.size : Int) := by omega
  have hcv := conv_one
  have HB' := below_alloc (o := .cells #[.int .u8 by_] 5) HB; clear HB; have HB := HB'; clear HB'
  go_upto_region 8 with fail
  generalize hfew : s.extract 0 (min (s.size : Int) 300).toNat = few at *
  have hfs : few.size ≤ 300 := by rw [← hfew]; simp; omega
  clear hfew hmn hmm hcv hw0
  have hm1 : ∃ k1 : Nat, min ((k : Int) + 1) (E.length : Int) = (k1 : Int) ∧ k1 ≤ E.length := ⟨min (k + 1) E.length, by omega, by omega⟩
  have hm6 : ∃ k6 : Nat, min (k : Int) 6 = (k6 : Int) ∧ k6 ≤ E.length := ⟨min k 6, by omega, by omega⟩
  obtain ⟨k1, b8, hk1⟩ := hm1
  obtain ⟨k6, b9, hk6⟩ := hm6
  have b1 : (0 : Int) ≤ (k : Int) := by omega
  have b3 : (k : Int) ≤ (E.length : Int) := by omega
  have b4 : (k1 : Int) ≤ (E.length : Int) := by omega
  have b5 : (0 : Int) ≤ (k1 : Int) := by omega
  have b6 : IntKind.i64.wrap ((k : Int) + 1) = (k : Int) + 1 := IntWalk.i64_in _ (by omega)
  have c4 : (k6 : Int) ≤ (E.length : Int) := by omega
  have c5 : (0 : Int) ≤ (k6 : Int) := by omega
  have q1 : ¬ 9223372036854775807 < E.length + few.size := by omega
  have q2 : ¬ 9223372036854775807 < min k E.length + 1 := by omega
  have q3 : ¬ 9223372036854775807 < min k E.length + 1 + (E.length - k) := by omega
  have q4 : ¬ 9223372036854775807 < min k E.length + 1 + (E.length - k1) := by omega
  have q5 : ¬ 9223372036854775807 < min k E.length + (E.length - k1) := by omega
  have q6 : ¬ 9223372036854775807 < min k6 E.length + few.size := by omega
  have q7 : ¬ 9223372036854775807 < k + 1 := by omega
  have q8 : ¬ 9223372036854775807 < k6 + few.size := by omega
  go_cut [90, 91, 92] (fun s90 s91 s92 wx => s90 = .slice (some ⟨w3.heap.size + 1, 0, none⟩) 8 8 ∧ s91 = .int .i64 8 ∧ s92 = .int .i64 0 ∧ Below w.heap.size w wx ∧ wx.heap[w3.heap.size + 1]? = some (.cells #[.string few, .string ⟨E.toArray⟩, .string ((⟨E.toArray⟩ : ByteArray).extract 0 k), .string ((⟨E.toArray⟩ : ByteArray).extract 0 k ++ ⟨#[UInt8.ofNat by_.toNat]⟩ ++ (⟨E.toArray⟩ : ByteArray).extract k E.length), .string ((⟨E.toArray⟩ : ByteArray).extract 0 k ++ ⟨#[UInt8.ofNat by_.toNat]⟩ ++ (⟨E.toArray⟩ : ByteArray).extract k1 E.length), .string ((⟨E.toArray⟩ : ByteArray).extract 0 k ++ (⟨E.toArray⟩ : ByteArray).extract k1 E.length), .string (⟨E.toArray⟩ ++ few), .string ((⟨E.toArray⟩ : ByteArray).extract 0 k6 ++ few)] 9))
  case first =>
    refine wp_region_held_drew (S := fun w' => Below w.heap.size w w') (by kernel_rfl) (HB.drew) ?_
    intro hS
    refine wpAnyH_take (i := 0) (oi := ⟨some 43, _, _, _, _, _⟩) (v := ?vt1x0) rfl (by kernel_rfl) (by kernel_rfl) (by kernel_rfl) (fun _ _ _ h => h) (Or.inl ⟨by rfl, ?hyt1x0⟩) (by exact hS) ?ret1x0
    case hyt1x0 => (intro ww hSw; (try dsimp only at hSw); go_simp; first | done | with_reducible rfl)
    try simp only [Act.put, List.setIfInBounds_toArray, List.set_cons_zero, List.set_cons_succ]
    refine wpAnyH_take (i := 1) (oi := ⟨some 44, _, _, _, _, _⟩) (v := ?vt1x1) rfl (by kernel_rfl) (by kernel_rfl) (by kernel_rfl) (fun _ _ _ h => h) (Or.inl ⟨by rfl, ?hyt1x1⟩) (by exact hS) ?ret1x1
    case hyt1x1 => (intro ww hSw; (try dsimp only at hSw); go_simp; first | done | with_reducible rfl)
    try simp only [Act.put, List.setIfInBounds_toArray, List.set_cons_zero, List.set_cons_succ]
    refine wpAnyH_take (i := 2) (oi := ⟨some 45, _, _, _, _, _⟩) (v := ?vt1x2) rfl (by kernel_rfl) (by kernel_rfl) (by kernel_rfl) (fun _ _ _ h => h) (Or.inl ⟨by rfl, ?hyt1x2⟩) (by exact hS) ?ret1x2
    case hyt1x2 => (intro ww hSw; (try dsimp only at hSw); go_simp; first | done | with_reducible rfl)
    try simp only [Act.put, List.setIfInBounds_toArray, List.set_cons_zero, List.set_cons_succ]
    refine wpAnyH_take (i := 3) (oi := ⟨some 46, _, _, _, _, _⟩) (v := ?vt1x3) rfl (by kernel_rfl) (by kernel_rfl) (by kernel_rfl) (fun _ _ _ h => h) (Or.inl ⟨by rfl, ?hyt1x3⟩) (by exact hS) ?ret1x3
    case hyt1x3 => (intro ww hSw; (try dsimp only at hSw); go_simp; first | done | with_reducible rfl)
    try simp only [Act.put, List.setIfInBounds_toArray, List.set_cons_zero, List.set_cons_succ]
    refine wpAnyH_take (i := 4) (oi := ⟨some 47, _, _, _, _, _⟩) (v := ?vt1x4) rfl (by kernel_rfl) (by kernel_rfl) (by kernel_rfl) (fun _ _ _ h => h) (Or.inl ⟨by rfl, ?hyt1x4⟩) (by exact hS) ?ret1x4
    case hyt1x4 => (intro ww hSw; (try dsimp only at hSw); go_simp; first | done | with_reducible rfl)
    try simp only [Act.put, List.setIfInBounds_toArray, List.set_cons_zero, List.set_cons_succ]
    refine wpAnyH_take (i := 5) (oi := ⟨some 48, _, _, _, _, _⟩) (v := ?vt1x5) rfl (by kernel_rfl) (by kernel_rfl) (by kernel_rfl) (fun _ _ _ h => h) (Or.inl ⟨by rfl, ?hyt1x5⟩) (by exact hS) ?ret1x5
    case hyt1x5 => (intro ww hSw; (try dsimp only at hSw); go_simp; first | done | with_reducible rfl)
    try simp only [Act.put, List.setIfInBounds_toArray, List.set_cons_zero, List.set_cons_succ]
    refine wpAnyH_take (i := 6) (oi := ⟨some 49, _, _, _, _, _⟩) (v := ?vt1x6) rfl (by kernel_rfl) (by kernel_rfl) (by kernel_rfl) (fun _ _ _ h => h) (Or.inl ⟨by rfl, ?hyt1x6⟩) (by exact hS) ?ret1x6
    case hyt1x6 => (intro ww hSw; (try dsimp only at hSw); go_simp; first | done | with_reducible rfl)
    try simp only [Act.put, List.setIfInBounds_toArray, List.set_cons_zero, List.set_cons_succ]
    refine wpAnyH_take (i := 7) (oi := ⟨some 50, _, _, _, _, _⟩) (v := ?vt1x7) rfl (by kernel_rfl) (by kernel_rfl) (by kernel_rfl) (fun _ _ _ h => h) (Or.inl ⟨by rfl, ?hyt1x7⟩) (by exact hS) ?ret1x7
    case hyt1x7 => (intro ww hSw; (try dsimp only at hSw); go_simp; first | done | with_reducible rfl)
    try simp only [Act.put, List.setIfInBounds_toArray, List.set_cons_zero, List.set_cons_succ]
    refine wpAnyH_take (i := 8) (oi := ⟨some 51, _, _, _, _, _⟩) (v := ?vt1x8) rfl (by kernel_rfl) (by kernel_rfl) (by kernel_rfl) (fun _ _ _ h => h) (Or.inl ⟨by rfl, ?hyt1x8⟩) (by exact hS) ?ret1x8
    case hyt1x8 => (intro ww hSw; (try dsimp only at hSw); go_simp; first | done | with_reducible rfl)
    try simp only [Act.put, List.setIfInBounds_toArray, List.set_cons_zero, List.set_cons_succ]
    refine wpAnyH_take (i := 9) (oi := ⟨some 52, _, _, _, _, _⟩) (v := ?vt1x9) rfl (by kernel_rfl) (by kernel_rfl) (by kernel_rfl) (fun _ _ _ h => h) (Or.inl ⟨by rfl, ?hyt1x9⟩) (by exact hS) ?ret1x9
    case hyt1x9 => (intro ww hSw; (try dsimp only at hSw); go_simp; first | done | with_reducible rfl)
    try simp only [Act.put, List.setIfInBounds_toArray, List.set_cons_zero, List.set_cons_succ]
    refine wpAnyH_take (i := 10) (oi := ⟨some 53, _, _, _, _, _⟩) (v := ?vt1x10) rfl (by kernel_rfl) (by kernel_rfl) (by kernel_rfl) (fun _ _ _ h => h) (Or.inl ⟨by rfl, ?hyt1x10⟩) (by exact hS) ?ret1x10
    case hyt1x10 => (intro ww hSw; (try dsimp only at hSw); go_simp; first | done | with_reducible rfl)
    try simp only [Act.put, List.setIfInBounds_toArray, List.set_cons_zero, List.set_cons_succ]
    refine wpAnyH_take (i := 11) (oi := ⟨some 54, _, _, _, _, _⟩) (v := ?vt1x11) rfl (by kernel_rfl) (by kernel_rfl) (by kernel_rfl) (fun _ _ _ h => h) (Or.inl ⟨by rfl, ?hyt1x11⟩) (by exact hS) ?ret1x11
    case hyt1x11 => (intro ww hSw; (try dsimp only at hSw); go_simp; first | done | with_reducible rfl)
    try simp only [Act.put, List.setIfInBounds_toArray, List.set_cons_zero, List.set_cons_succ]
    refine wpAnyH_take (i := 12) (oi := ⟨some 55, _, _, _, _, _⟩) (v := ?vt1x12) rfl (by kernel_rfl) (by kernel_rfl) (by kernel_rfl) (fun _ _ _ h => h) (Or.inl ⟨by rfl, ?hyt1x12⟩) (by exact hS) ?ret1x12
    case hyt1x12 => (intro ww hSw; (try dsimp only at hSw); go_simp; first | done | with_reducible rfl)
    try simp only [Act.put, List.setIfInBounds_toArray, List.set_cons_zero, List.set_cons_succ]
    refine wpAnyH_take (i := 13) (oi := ⟨some 56, _, _, _, _, _⟩) (v := ?vt1x13) rfl (by kernel_rfl) (by kernel_rfl) (by kernel_rfl) (fun _ _ _ h => h) (Or.inl ⟨by rfl, ?hyt1x13⟩) (by exact hS) ?ret1x13
    case hyt1x13 => (intro ww hSw; (try dsimp only at hSw); go_simp; first | done | with_reducible rfl)
    try simp only [Act.put, List.setIfInBounds_toArray, List.set_cons_zero, List.set_cons_succ]
    refine wpAnyH_take (i := 14) (oi := ⟨some 57, _, _, _, _, _⟩) (v := ?vt1x14) rfl (by kernel_rfl) (by kernel_rfl) (by kernel_rfl) (fun _ _ _ h => h) (Or.inl ⟨by rfl, ?hyt1x14⟩) (by exact hS) ?ret1x14
    case hyt1x14 => (intro ww hSw; (try dsimp only at hSw); go_simp; first | done | with_reducible rfl)
    try simp only [Act.put, List.setIfInBounds_toArray, List.set_cons_zero, List.set_cons_succ]
    refine wpAnyH_take (i := 15) (oi := ⟨some 58, _, _, _, _, _⟩) (v := ?vt1x15) rfl (by kernel_rfl) (by kernel_rfl) (by kernel_rfl) (fun _ _ _ h => h) (Or.inl ⟨by rfl, ?hyt1x15⟩) (by exact hS) ?ret1x15
    case hyt1x15 => (intro ww hSw; (try dsimp only at hSw); go_simp; first | done | with_reducible rfl)
    try simp only [Act.put, List.setIfInBounds_toArray, List.set_cons_zero, List.set_cons_succ]
    refine wpAnyH_take (i := 16) (oi := ⟨some 59, _, _, _, _, _⟩) (v := ?vt1x16) rfl (by kernel_rfl) (by kernel_rfl) (by kernel_rfl) (fun _ _ _ h => h) (Or.inl ⟨by rfl, ?hyt1x16⟩) (by exact hS) ?ret1x16
    case hyt1x16 => (intro ww hSw; (try dsimp only at hSw); go_simp; first | done | with_reducible rfl)
    try simp only [Act.put, List.setIfInBounds_toArray, List.set_cons_zero, List.set_cons_succ]
    refine wpAnyH_take (i := 17) (oi := ⟨some 60, _, _, _, _, _⟩) (v := ?vt1x17) rfl (by kernel_rfl) (by kernel_rfl) (by kernel_rfl) (fun _ _ _ h => h) (Or.inl ⟨by rfl, ?hyt1x17⟩) (by exact hS) ?ret1x17
    case hyt1x17 => (intro ww hSw; (try dsimp only at hSw); go_simp; first | done | with_reducible rfl)
    try simp only [Act.put, List.setIfInBounds_toArray, List.set_cons_zero, List.set_cons_succ]
    refine wpAnyH_take (i := 18) (oi := ⟨some 61, _, _, _, _, _⟩) (v := ?vt1x18) rfl (by kernel_rfl) (by kernel_rfl) (by kernel_rfl) (fun _ _ _ h => h) (Or.inl ⟨by rfl, ?hyt1x18⟩) (by exact hS) ?ret1x18
    case hyt1x18 => (intro ww hSw; (try dsimp only at hSw); go_simp; first | done | with_reducible rfl)
    try simp only [Act.put, List.setIfInBounds_toArray, List.set_cons_zero, List.set_cons_succ]
    refine wpAnyH_take (i := 19) (oi := ⟨some 62, _, _, _, _, _⟩) (v := ?vt1x19) rfl (by kernel_rfl) (by kernel_rfl) (by kernel_rfl) (fun _ _ _ h => h) (Or.inl ⟨by rfl, ?hyt1x19⟩) (by exact hS) ?ret1x19
    case hyt1x19 => (intro ww hSw; (try dsimp only at hSw); go_simp; first | done | with_reducible rfl)
    try simp only [Act.put, List.setIfInBounds_toArray, List.set_cons_zero, List.set_cons_succ]
    refine wpAnyH_take (i := 20) (oi := ⟨some 63, _, _, _, _, _⟩) (v := ?vt1x20) rfl (by kernel_rfl) (by kernel_rfl) (by kernel_rfl) (fun _ _ _ h => h) (Or.inl ⟨by rfl, ?hyt1x20⟩) (by exact hS) ?ret1x20
    case hyt1x20 => (intro ww hSw; (try dsimp only at hSw); go_simp; first | done | with_reducible rfl)
    try simp only [Act.put, List.setIfInBounds_toArray, List.set_cons_zero, List.set_cons_succ]
    refine wpAnyH_take (i := 21) (oi := ⟨some 64, _, _, _, _, _⟩) (v := ?vt1x21) rfl (by kernel_rfl) (by kernel_rfl) (by kernel_rfl) (fun _ _ _ h => h) (Or.inl ⟨by rfl, ?hyt1x21⟩) (by exact hS) ?ret1x21
    case hyt1x21 => (intro ww hSw; (try dsimp only at hSw); go_simp; first | done | with_reducible rfl)
    try simp only [Act.put, List.setIfInBounds_toArray, List.set_cons_zero, List.set_cons_succ]
    refine wpAnyH_take (i := 22) (oi := ⟨some 65, _, _, _, _, _⟩) (v := ?vt1x22) rfl (by kernel_rfl) (by kernel_rfl) (by kernel_rfl) (fun _ _ _ h => h) (Or.inl ⟨by rfl, ?hyt1x22⟩) (by exact hS) ?ret1x22
    case hyt1x22 => (intro ww hSw; (try dsimp only at hSw); go_simp; first | done | with_reducible rfl)
    try simp only [Act.put, List.setIfInBounds_toArray, List.set_cons_zero, List.set_cons_succ]
    refine wpAnyH_take (i := 23) (oi := ⟨some 66, _, _, _, _, _⟩) (v := ?vt1x23) rfl (by kernel_rfl) (by kernel_rfl) (by kernel_rfl) (fun _ _ _ h => h) (Or.inl ⟨by rfl, ?hyt1x23⟩) (by exact hS) ?ret1x23
    case hyt1x23 => (intro ww hSw; (try dsimp only at hSw); go_simp; first | done | with_reducible rfl)
    try simp only [Act.put, List.setIfInBounds_toArray, List.set_cons_zero, List.set_cons_succ]
    refine wpAnyH_take (i := 24) (oi := ⟨some 67, _, _, _, _, _⟩) (v := ?vt1x24) rfl (by kernel_rfl) (by kernel_rfl) (by kernel_rfl) (fun _ _ _ h => h) (Or.inl ⟨by rfl, ?hyt1x24⟩) (by exact hS) ?ret1x24
    case hyt1x24 => (intro ww hSw; (try dsimp only at hSw); go_simp; first | done | with_reducible rfl)
    try simp only [Act.put, List.setIfInBounds_toArray, List.set_cons_zero, List.set_cons_succ]
    refine wpAnyH_take (i := 25) (oi := ⟨some 68, _, _, _, _, _⟩) (v := ?vt1x25) rfl (by kernel_rfl) (by kernel_rfl) (by kernel_rfl) (fun _ _ _ h => h) (Or.inl ⟨by rfl, ?hyt1x25⟩) (by exact hS) ?ret1x25
    case hyt1x25 => (intro ww hSw; (try dsimp only at hSw); go_simp; first | done | with_reducible rfl)
    try simp only [Act.put, List.setIfInBounds_toArray, List.set_cons_zero, List.set_cons_succ]
    refine wpAnyH_take (i := 26) (oi := ⟨some 69, _, _, _, _, _⟩) (v := ?vt1x26) rfl (by kernel_rfl) (by kernel_rfl) (by kernel_rfl) (fun _ _ _ h => h) (Or.inl ⟨by rfl, ?hyt1x26⟩) (by exact hS) ?ret1x26
    case hyt1x26 => (intro ww hSw; (try dsimp only at hSw); go_simp; first | done | with_reducible rfl)
    try simp only [Act.put, List.setIfInBounds_toArray, List.set_cons_zero, List.set_cons_succ]
    refine wpAnyH_take (i := 27) (oi := ⟨some 70, _, _, _, _, _⟩) (v := ?vt1x27) rfl (by kernel_rfl) (by kernel_rfl) (by kernel_rfl) (fun _ _ _ h => h) (Or.inl ⟨by rfl, ?hyt1x27⟩) (by exact hS) ?ret1x27
    case hyt1x27 => (intro ww hSw; (try dsimp only at hSw); go_simp; first | done | with_reducible rfl)
    try simp only [Act.put, List.setIfInBounds_toArray, List.set_cons_zero, List.set_cons_succ]
    refine wpAnyH_take (i := 28) (oi := ⟨some 71, _, _, _, _, _⟩) (v := ?vt1x28) rfl (by kernel_rfl) (by kernel_rfl) (by kernel_rfl) (fun _ _ _ h => h) (Or.inl ⟨by rfl, ?hyt1x28⟩) (by exact hS) ?ret1x28
    case hyt1x28 => (intro ww hSw; (try dsimp only at hSw); go_simp; first | done | with_reducible rfl)
    try simp only [Act.put, List.setIfInBounds_toArray, List.set_cons_zero, List.set_cons_succ]
    refine wpAnyH_take (i := 29) (oi := ⟨some 72, _, _, _, _, _⟩) (v := ?vt1x29) rfl (by kernel_rfl) (by kernel_rfl) (by kernel_rfl) (fun _ _ _ h => h) (Or.inl ⟨by rfl, ?hyt1x29⟩) (by exact hS) ?ret1x29
    case hyt1x29 => (intro ww hSw; (try dsimp only at hSw); go_simp; first | done | with_reducible rfl)
    try simp only [Act.put, List.setIfInBounds_toArray, List.set_cons_zero, List.set_cons_succ]
    refine wpAnyH_take (i := 30) (oi := ⟨some 73, _, _, _, _, _⟩) (v := ?vt1x30) rfl (by kernel_rfl) (by kernel_rfl) (by kernel_rfl) (fun _ _ _ h => h) (Or.inl ⟨by rfl, ?hyt1x30⟩) (by exact hS) ?ret1x30
    case hyt1x30 => (intro ww hSw; (try dsimp only at hSw); go_simp; first | done | with_reducible rfl)
    try simp only [Act.put, List.setIfInBounds_toArray, List.set_cons_zero, List.set_cons_succ]
    refine wpAnyH_take (i := 31) (oi := ⟨some 74, _, _, _, _, _⟩) (v := ?vt1x31) rfl (by kernel_rfl) (by kernel_rfl) (by kernel_rfl) (fun _ _ _ h => h) (Or.inl ⟨by rfl, ?hyt1x31⟩) (by exact hS) ?ret1x31
    case hyt1x31 => (intro ww hSw; (try dsimp only at hSw); go_simp; first | done | with_reducible rfl)
    try simp only [Act.put, List.setIfInBounds_toArray, List.set_cons_zero, List.set_cons_succ]
    refine wpAnyH_take (i := 32) (oi := ⟨some 75, _, _, _, _, _⟩) (v := ?vt1x32) rfl (by kernel_rfl) (by kernel_rfl) (by kernel_rfl) (fun _ _ _ h => h) (Or.inl ⟨by rfl, ?hyt1x32⟩) (by exact hS) ?ret1x32
    case hyt1x32 => (intro ww hSw; (try dsimp only at hSw); go_simp; first | done | with_reducible rfl)
    try simp only [Act.put, List.setIfInBounds_toArray, List.set_cons_zero, List.set_cons_succ]
    refine wpAnyH_take (i := 33) (oi := ⟨some 76, _, _, _, _, _⟩) (v := ?vt1x33) rfl (by kernel_rfl) (by kernel_rfl) (by kernel_rfl) (fun _ _ _ h => h) (Or.inl ⟨by rfl, ?hyt1x33⟩) (by exact hS) ?ret1x33
    case hyt1x33 => (intro ww hSw; (try dsimp only at hSw); go_simp; first | done | with_reducible rfl)
    try simp only [Act.put, List.setIfInBounds_toArray, List.set_cons_zero, List.set_cons_succ]
    refine wpAnyH_take (i := 34) (oi := ⟨some 77, _, _, _, _, _⟩) (v := ?vt1x34) rfl (by kernel_rfl) (by kernel_rfl) (by kernel_rfl) (fun _ _ _ h => h) (Or.inl ⟨by rfl, ?hyt1x34⟩) (by exact hS) ?ret1x34
    case hyt1x34 => (intro ww hSw; (try dsimp only at hSw); go_simp; first | done | with_reducible rfl)
    try simp only [Act.put, List.setIfInBounds_toArray, List.set_cons_zero, List.set_cons_succ]
    refine wpAnyH_take (i := 35) (oi := ⟨some 78, _, _, _, _, _⟩) (v := ?vt1x35) rfl (by kernel_rfl) (by kernel_rfl) (by kernel_rfl) (fun _ _ _ h => h) (Or.inl ⟨by rfl, ?hyt1x35⟩) (by exact hS) ?ret1x35
    case hyt1x35 => (intro ww hSw; (try dsimp only at hSw); go_simp; first | done | with_reducible rfl)
    try simp only [Act.put, List.setIfInBounds_toArray, List.set_cons_zero, List.set_cons_succ]
    refine wpAnyH_take (i := 36) (oi := ⟨some 79, _, _, _, _, _⟩) (v := ?vt1x36) rfl (by kernel_rfl) (by kernel_rfl) (by kernel_rfl) (fun _ _ _ h => h) (Or.inl ⟨by rfl, ?hyt1x36⟩) (by exact hS) ?ret1x36
    case hyt1x36 => (intro ww hSw; (try dsimp only at hSw); go_simp; first | done | with_reducible rfl)
    try simp only [Act.put, List.setIfInBounds_toArray, List.set_cons_zero, List.set_cons_succ]
    refine wpAnyH_take (i := 37) (oi := ⟨some 80, _, _, _, _, _⟩) (v := ?vt1x37) rfl (by kernel_rfl) (by kernel_rfl) (by kernel_rfl) (fun _ _ _ h => h) (Or.inl ⟨by rfl, ?hyt1x37⟩) (by exact hS) ?ret1x37
    case hyt1x37 => (intro ww hSw; (try dsimp only at hSw); go_simp; first | done | with_reducible rfl)
    try simp only [Act.put, List.setIfInBounds_toArray, List.set_cons_zero, List.set_cons_succ]
    refine wpAnyH_take (i := 38) (oi := ⟨some 81, _, _, _, _, _⟩) (v := ?vt1x38) rfl (by kernel_rfl) (by kernel_rfl) (by kernel_rfl) (fun _ _ _ h => h) (Or.inl ⟨by rfl, ?hyt1x38⟩) (by exact hS) ?ret1x38
    case hyt1x38 => (intro ww hSw; (try dsimp only at hSw); go_simp; first | done | with_reducible rfl)
    try simp only [Act.put, List.setIfInBounds_toArray, List.set_cons_zero, List.set_cons_succ]
    refine wpAnyH_take (i := 39) (oi := ⟨some 82, _, _, _, _, _⟩) (v := ?vt1x39) rfl (by kernel_rfl) (by kernel_rfl) (by kernel_rfl) (fun _ _ _ h => h) (Or.inl ⟨by rfl, ?hyt1x39⟩) (by exact hS) ?ret1x39
    case hyt1x39 => (intro ww hSw; (try dsimp only at hSw); go_simp; first | done | with_reducible rfl)
    try simp only [Act.put, List.setIfInBounds_toArray, List.set_cons_zero, List.set_cons_succ]
    refine wpAnyH_take (i := 40) (oi := ⟨some 83, _, _, _, _, _⟩) (v := ?vt1x40) rfl (by kernel_rfl) (by kernel_rfl) (by kernel_rfl) (fun _ _ _ h => h) (Or.inl ⟨by rfl, ?hyt1x40⟩) (by exact hS) ?ret1x40
    case hyt1x40 => (intro ww hSw; (try dsimp only at hSw); go_simp; first | done | with_reducible rfl)
    try simp only [Act.put, List.setIfInBounds_toArray, List.set_cons_zero, List.set_cons_succ]
    refine wpAnyH_take (i := 41) (oi := ⟨some 84, _, _, _, _, _⟩) (v := ?vt1x41) rfl (by kernel_rfl) (by kernel_rfl) (by kernel_rfl) (fun _ _ _ h => h) (Or.inl ⟨by rfl, ?hyt1x41⟩) (by exact hS) ?ret1x41
    case hyt1x41 => (intro ww hSw; (try dsimp only at hSw); go_simp; first | done | with_reducible rfl)
    try simp only [Act.put, List.setIfInBounds_toArray, List.set_cons_zero, List.set_cons_succ]
    refine wpAnyH_take (i := 42) (oi := ⟨some 85, _, _, _, _, _⟩) (v := ?vt1x42) rfl (by kernel_rfl) (by kernel_rfl) (by kernel_rfl) (fun _ _ _ h => h) (Or.inl ⟨by rfl, ?hyt1x42⟩) (by exact hS) ?ret1x42
    case hyt1x42 => (intro ww hSw; (try dsimp only at hSw); go_simp; first | done | with_reducible rfl)
    try simp only [Act.put, List.setIfInBounds_toArray, List.set_cons_zero, List.set_cons_succ]
    refine wpAnyH_take (i := 43) (oi := ⟨some 86, _, _, _, _, _⟩) (v := ?vt1x43) rfl (by kernel_rfl) (by kernel_rfl) (by kernel_rfl) (fun _ _ _ h => h) (Or.inl ⟨by rfl, ?hyt1x43⟩) (by exact hS) ?ret1x43
    case hyt1x43 => (intro ww hSw; (try dsimp only at hSw); go_simp; first | done | with_reducible rfl)
    try simp only [Act.put, List.setIfInBounds_toArray, List.set_cons_zero, List.set_cons_succ]
    refine wpAnyH_take (i := 44) (oi := ⟨some 87, _, _, _, _, _⟩) (v := ?vt1x44) rfl (by kernel_rfl) (by kernel_rfl) (by kernel_rfl) (fun _ _ _ h => h) (Or.inl ⟨by rfl, ?hyt1x44⟩) (by exact hS) ?ret1x44
    case hyt1x44 => (intro ww hSw; (try dsimp only at hSw); go_simp; first | done | with_reducible rfl)
    try simp only [Act.put, List.setIfInBounds_toArray, List.set_cons_zero, List.set_cons_succ]
    refine wpAnyH_take (i := 45) (oi := ⟨some 88, _, _, _, _, _⟩) (v := ?vt1x45) rfl (by kernel_rfl) (by kernel_rfl) (by kernel_rfl) (fun _ _ _ h => h) (Or.inl ⟨by rfl, ?hyt1x45⟩) (by exact hS) ?ret1x45
    case hyt1x45 => (intro ww hSw; (try dsimp only at hSw); go_simp; first | done | with_reducible rfl)
    try simp only [Act.put, List.setIfInBounds_toArray, List.set_cons_zero, List.set_cons_succ]
    refine wpAnyH_take (i := 46) (oi := ⟨some 89, _, _, _, _, _⟩) (v := ?vt1x46) rfl (by kernel_rfl) (by kernel_rfl) (by kernel_rfl) (fun _ _ _ h => h) (Or.inl ⟨by rfl, ?hyt1x46⟩) (by exact hS) ?ret1x46
    case hyt1x46 => (intro ww hSw; (try dsimp only at hSw); go_simp; first | done | with_reducible rfl)
    try simp only [Act.put, List.setIfInBounds_toArray, List.set_cons_zero, List.set_cons_succ]
    refine wpAnyH_take (i := 49) (oi := ⟨some 92, _, _, _, _, _⟩) (v := ?vt1x49) rfl (by kernel_rfl) (by kernel_rfl) (by kernel_rfl) (fun _ _ _ h => h) (Or.inl ⟨by rfl, ?hyt1x49⟩) (by exact hS) ?ret1x49
    case hyt1x49 => (intro ww hSw; (try dsimp only at hSw); go_simp; first | done | with_reducible rfl)
    try simp only [Act.put, List.setIfInBounds_toArray, List.set_cons_zero, List.set_cons_succ]
    refine wpAnyH_ready (rs := [47]) (by kernel_rfl) (by simp) ?_
    refine AllReadyH.cons (o := ⟨some 90, _, _, _, _, _⟩) rfl (fun K2 hK2 => ?_) AllReadyH.nil
    go_simp
    refine hK2.out _ _ (below_alloc HB.drew) (fun h2 => ?_)
    try simp only [Act.put, List.setIfInBounds_toArray, List.set_cons_zero, List.set_cons_succ]
    refine wpAnyH_take (i := 48) (oi := ⟨some 91, _, _, _, _, _⟩) (v := ?vt3x48) rfl (by kernel_rfl) (by kernel_rfl) (by kernel_rfl) (fun _ _ _ h => h) (Or.inl ⟨by rfl, ?hyt3x48⟩) (by exact (by exact h2)) ?ret3x48
    case hyt3x48 => (intro ww hSw; (try dsimp only at hSw); go_simp; first | done | with_reducible rfl)
    try simp only [Act.put, List.setIfInBounds_toArray, List.set_cons_zero, List.set_cons_succ]
    refine wpAnyH_done (by kernel_rfl) ?_ _
    go_wp2_with fail
    go_meet
    exact ⟨rfl, rfl, rfl, below_alloc HB.drew, alloc_new' _ _ _ (by simp)⟩
  case rest =>
    clear HB
    obtain ⟨rfl, rfl, rfl, HB, hSx⟩ := hcut
    have HS := Lib.hid hSx; clear hSx
    clear b1 b3 b4 b5 b6 b8 b9 c4 c5 q1 q2 q3 q4 q5 q6 q7 q8
    obtain ⟨b0, rfl⟩ : ∃ wo : World, wo = wc := ⟨_, rfl⟩
    have HB0 := Lib.hid HB; clear HB
    go_wp2_with fail
    go_loopw [92] (fun i wl => ∃ j : Nat, j ≤ 8 ∧ i = .int .i64 (j : Int) ∧ Below b0.heap.size b0 wl) (fun i _ => 8 - (intOf i).toNat)
    case atStart => exact ⟨0, by omega, rfl, Below.refl _ _⟩
    case round =>
      obtain ⟨j, hj, rfl, HR⟩ := hrel
      obtain ⟨wo, rfl⟩ : ∃ wo : World, wo = wr := ⟨_, rfl⟩
      by_cases hlt : j < 8
      · as_aux_lemma =>
        obtain ⟨y, hyz, cy⟩ := cells8s HS.out hln.2 hfs j hlt
        have gy := bcell HR cy; clear cy
        have lt_S := blk_lt HS.out; have hzo := HR.size
        have hjl : decide ((j : Int) < 8) = true := by simp; omega
        have hj0 : (0 : Int) ≤ (j : Int) := by omega
        obtain ⟨d, en, hdl, hD, hRD⟩ := dec_both y hyz
        have HD := Lib.hid hD; have HRD := Lib.hid hRD; clear hD hRD
        have HSM := Lib.hid (rsameL d d (by omega) (by omega)); rw [decide_eq_true (rfl : d = d)] at HSM
        have HB := HR; clear HR
        go_wp2_with fail
        clear gy
        go_wp2_with fail
        refine (HD.out _).mono ?_
        rintro e w31 ⟨⟨A1, c1, rfl, hr1⟩, hb⟩
        have HB' := below_call HB hb; clear HB hb; have HB := HB'; clear HB'; have hz31 := HB.size
        have Hr1 := Lib.hid hr1; clear hr1
        have Hc := Lib.hid (alloc_new' w31 (.cells #[.int .i64 d.id, .bool d.ans, .int .i64 d.code, .string ⟨d.nm.toArray⟩, .int .i64 d.kd, .slice A1 d.recs.length c1] 27) (w31.heap.size) (by simp))
        have Hr1' := Lib.hid (Hr1.out.alloc (.cells #[.int .i64 d.id, .bool d.ans, .int .i64 d.code, .string ⟨d.nm.toArray⟩, .int .i64 d.kd, .slice A1 d.recs.length c1] 27)); clear Hr1; have Hr1 := Hr1'; clear Hr1'
        have HB' := below_alloc (o := .cells #[.int .i64 d.id, .bool d.ans, .int .i64 d.code, .string ⟨d.nm.toArray⟩, .int .i64 d.kd, .slice A1 d.recs.length c1] 27) HB; clear HB; have HB := HB'; clear HB'
        go_wp2_with fail
        refine (HRD.out _).mono ?_
        rintro e w32 ⟨⟨A2, c2, rfl, hr2⟩, hb⟩
        have Hc' := Lib.hid (bblock hb Hc.out); clear Hc; have Hc := Hc'; clear Hc'
        have Hr1' := Lib.hid (Hr1.out.below hb); clear Hr1; have Hr1 := Hr1'; clear Hr1'
        have HB' := below_call HB hb; clear HB hb; have HB := HB'; clear HB'; have hz32 := HB.size
        have lt_c_32 := blk_lt Hc.out
        have Hr2 := Lib.hid hr2; clear hr2
        have He := Lib.hid (alloc_new' w32 (.cells #[.int .i64 d.id, .bool d.ans, .int .i64 d.code, .string ⟨d.nm.toArray⟩, .int .i64 d.kd, .slice A2 d.recs.length c2] 27) (w32.heap.size) (by simp))
        have Hc' := Lib.hid (block_alloc Hc.out (.cells #[.int .i64 d.id, .bool d.ans, .int .i64 d.code, .string ⟨d.nm.toArray⟩, .int .i64 d.kd, .slice A2 d.recs.length c2] 27)); clear Hc; have Hc := Hc'; clear Hc'
        have Hr1' := Lib.hid (Hr1.out.alloc (.cells #[.int .i64 d.id, .bool d.ans, .int .i64 d.code, .string ⟨d.nm.toArray⟩, .int .i64 d.kd, .slice A2 d.recs.length c2] 27)); clear Hr1; have Hr1 := Hr1'; clear Hr1'
        have Hr2' := Lib.hid (Hr2.out.alloc (.cells #[.int .i64 d.id, .bool d.ans, .int .i64 d.code, .string ⟨d.nm.toArray⟩, .int .i64 d.kd, .slice A2 d.recs.length c2] 27)); clear Hr2; have Hr2 := Hr2'; clear Hr2'
        have HB' := below_alloc (o := .cells #[.int .i64 d.id, .bool d.ans, .int .i64 d.code, .string ⟨d.nm.toArray⟩, .int .i64 d.kd, .slice A2 d.recs.length c2] 27) HB; clear HB; have HB := HB'; clear HB'
        have Sc := cells6 Hc.out
        obtain ⟨⟨qc0, qc1, qc2, qc3, qc4, qc5⟩, zc0, zc1, zc2, zc3, zc4, zc5⟩ := Sc
        have lt_c := blk_lt Hc.out
        have Se := cells6 He.out
        obtain ⟨⟨qe0, qe1, qe2, qe3, qe4, qe5⟩, ze0, ze1, ze2, ze3, ze4, ze5⟩ := Se
        have lt_e := blk_lt He.out
        go_wp2_with fail
        refine (HSM.out _ _ _ _ _ _ _ Hr1.out Hr2.out).mono ?_
        rintro e w33 ⟨rfl, hb⟩
        clear qc0 zc0 qc1 zc1 qc2 zc2 qc3 zc3 qc4 zc4 qc5 zc5
        clear qe0 ze0 qe1 ze1 qe2 ze2 qe3 ze3 qe4 ze4 qe5 ze5
        have Hc' := Lib.hid (bblock hb Hc.out); clear Hc; have Hc := Hc'; clear Hc'
        have He' := Lib.hid (bblock hb He.out); clear He; have He := He'; clear He'
        have Hr1' := Lib.hid (Hr1.out.below hb); clear Hr1; have Hr1 := Hr1'; clear Hr1'
        have Hr2' := Lib.hid (Hr2.out.below hb); clear Hr2; have Hr2 := Hr2'; clear Hr2'
        have HB' := below_call HB hb; clear HB hb; have HB := HB'; clear HB'; have hz33 := HB.size
        have lt_c_33 := blk_lt Hc.out
        have lt_e_33 := blk_lt He.out
        go_wp2_with fail
        go_roundw
        case rel => exact ⟨j + 1, by omega, by go_num, HB⟩
        case measure => simp [intOf]; omega
      · have hjl : decide ((j : Int) < 8) = false := by simp; omega
        go_wp2_with fail
        go_ret
        exact ⟨rfl, below_call HB0.out HR⟩
end Go.Proofs.Ythdggmigjddneaa.Dn
