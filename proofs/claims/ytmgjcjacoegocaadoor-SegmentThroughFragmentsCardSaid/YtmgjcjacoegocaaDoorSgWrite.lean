/-
  The contract of segment.write.
-/
import Derived.Test.YtmgjcjacoegocaaDoorSgPut
import Derived.Deep.RegionHeld3
import Derived.Deep.RegionWith
namespace Go.Proofs.YtmgjcjacoegocaaDoor.Sg
set_option maxRecDepth 100000
open Go.RowKit Go.Proofs.YtmgjcjacoegocaaDoor.Wire

theorem isB_new' (W : World) {n : Nat} (h : W.heap.size = n) : IsB n n [] (W.alloc (.cells #[.pointer none, .slice none 0 0] 144)) := by subst h; exact isB_new W
theorem bcellB {W w1 : World} {B : Nat} (hb : Below B W w1) {b o : Nat} {v : Value} (hlt : b < B) (h : W.cell? ⟨b, o, none⟩ = some v) : w1.cell? ⟨b, o, none⟩ = some v := (hb.cell (p := ⟨b, o, none⟩) hlt).trans h
/-- the blocks, in bytes -/
def blBytes (bl : List (Int × Int)) : List UInt8 := bl.flatMap fun x => bes 4 [x.1, x.2]
theorem blBytes_length (bl : List (Int × Int)) : (blBytes bl).length = bl.length * 8 := by
  unfold blBytes
  induction bl with
  | nil => rfl
  | cons a l ih => simp [bes_length, ih]; omega
theorem blBytes_snoc (bl : List (Int × Int)) (x : Int × Int) : blBytes (bl ++ [x]) = blBytes bl ++ bes 4 [x.1, x.2] := by simp [blBytes]
/-- a segment in bytes, with the given checksum -/
def sbytes (fp tp sq ack : Int) (syn fin rst ha : Bool) (win mss : Int) (sacks : Bool) (bl : List (Int × Int)) (s : ByteArray) (sum : Int) : List UInt8 :=
  bes 2 [fp, tp] ++ bes 4 [sq, ack] ++ bes 1 [flagsOf syn fin rst ha sacks, (bl.length : Int)] ++ bes 2 [win, mss, sum] ++ blBytes bl ++ s.data.toList

set_option maxRecDepth 100000 in
set_option maxHeartbeats 4000000 in
theorem write_any (fp tp sq ack : Int) (syn fin rst ha : Bool) (win mss : Int) (sacks : Bool) (A : Option Addr) (n c : Nat) (bl : List (Int × Int)) (s : ByteArray) (sum : Int) (w : World) (hs0 : 0 ≤ sum) (hs1 : sum ≤ 65535) (hv : Vld fp tp sq ack syn fin rst ha win mss sacks bl s.size) (hb : Bks w A n bl) :
    Calls Tryd.prog 29 #[.agg #[.int .i64 fp, .int .i64 tp, .int .i64 sq, .int .i64 ack, .bool syn, .bool fin, .bool rst, .bool ha, .int .i64 win, .int .i64 mss, .bool sacks, .slice A n c, .string s], .int .i64 sum] w fun e w' => e = .returned (.string ⟨(sbytes fp tp sq ack syn fin rst ha win mss sacks bl s sum).toArray⟩) ∧ Below w.heap.size w w' := by
  have HB0 := Lib.hid hb; clear hb
  have HL := Lib.hid HB0.out.1
  obtain ⟨⟨⟨a1, a2⟩, ⟨a3, a4⟩, ⟨a5, a6⟩, ⟨a7, a8⟩, -, a9, a10⟩, ⟨-, -, -, a11⟩, ⟨⟨a12, -⟩, hB1⟩, hS⟩ := hv
  have hs : s.size ≤ 1024 := by unfold VS at hS; split at hS <;> omega
  have hn : n ≤ 3 := by have := HL.out; omega
  have HB1 := Lib.hid hB1
  clear hS hB1 a12
  have HF := Lib.hid fun w => flagByte_any fp tp sq ack syn fin rst ha win mss sacks A n c s w
  have hfl : 0 ≤ flagsOf syn fin rst ha sacks ∧ flagsOf syn fin rst ha sacks ≤ 31 := fsum_bd _ _ _ _ _ 5
  obtain ⟨hfl0, hfl1⟩ := hfl
  go_enter Tryd.func29, Tryd.ntmps29
  have Hx := Lib.hid (block_alloc (alloc_new w (.cells #[.int .i64 fp, .int .i64 tp, .int .i64 sq, .int .i64 ack, .bool syn, .bool fin, .bool rst, .bool ha, .int .i64 win, .int .i64 mss, .bool sacks, .slice A n c, .string s] 24)) (.cells #[.pointer none, .slice none 0 0] 144))
  have HB := below_alloc (o := .cells #[.pointer none, .slice none 0 0] 144) (below_alloc (o := .cells #[.int .i64 fp, .int .i64 tp, .int .i64 sq, .int .i64 ack, .bool syn, .bool fin, .bool rst, .bool ha, .int .i64 win, .int .i64 mss, .bool sacks, .slice A n c, .string s] 24) (Below.refl w.heap.size w))
  have HI : Hid (IsB (w.heap.size + 1) (w.heap.size + 1) [] ((w.alloc (.cells #[.int .i64 fp, .int .i64 tp, .int .i64 sq, .int .i64 ack, .bool syn, .bool fin, .bool rst, .bool ha, .int .i64 win, .int .i64 mss, .bool sacks, .slice A n c, .string s] 24)).alloc (.cells #[.pointer none, .slice none 0 0] 144))) := Lib.hid (isB_new' (w.alloc (.cells #[.int .i64 fp, .int .i64 tp, .int .i64 sq, .int .i64 ack, .bool syn, .bool fin, .bool rst, .bool ha, .int .i64 win, .int .i64 mss, .bool sacks, .slice A n c, .string s] 24)) (by simp))
  have hz := HB.size
  go_wp2_with fail
  -- walk of the numbers
  refine (put_any 2 _ 2 2 [fp, tp] _ (by omega) (by omega) rfl (by omega) (by simp; omega) (by exact alloc_new' _ _ _ (by simp))).mono ?_
  rintro e w1 ⟨rfl, hb⟩
  have Hx' := Lib.hid (bblock hb (block_alloc Hx.out _)); clear Hx; have Hx := Hx'; clear Hx'
  have HI' := Lib.hid (isB_below (isB_alloc HI.out _) hb); clear HI; have HI := HI'; clear HI'
  have HB' := below_call (below_alloc HB) hb; clear HB hb hz; have HB := HB'; clear HB'; have hz := HB.size
  go_wp2_with fail
  refine (bwrite_any _ _ [] _ _ HI.out (by simp [sz, bes_length])).mono ?_
  rintro e w2 ⟨rfl, HJ, hb⟩
  have Hx' := Lib.hid ((hb.block w.heap.size (by omega)).trans Hx.out); clear Hx; have Hx := Hx'; clear Hx'
  clear HI; have HI := Lib.hid HJ; clear HJ
  have HB' := HB.trans (hb.mono (by omega)); clear HB hb hz; have HB := HB'; clear HB'; have hz := HB.size
  have qx2 := (cell_of_block (k := 2) Hx.out rfl).1; have zx2 := (cell_of_block (k := 2) Hx.out rfl).2; have qx3 := (cell_of_block (k := 3) Hx.out rfl).1; have zx3 := (cell_of_block (k := 3) Hx.out rfl).2; have lt_x := blk_lt Hx.out
  go_wp2_with fail
  clear qx2 zx2 qx3 zx3 lt_x
  refine (put_any 4 _ 2 2 [sq, ack] _ (by omega) (by omega) rfl (by omega) (by simp; omega) (by exact alloc_new' _ _ _ (by simp))).mono ?_
  rintro e w1 ⟨rfl, hb⟩
  have Hx' := Lib.hid (bblock hb (block_alloc Hx.out _)); clear Hx; have Hx := Hx'; clear Hx'
  have HI' := Lib.hid (isB_below (isB_alloc HI.out _) hb); clear HI; have HI := HI'; clear HI'
  have HB' := below_call (below_alloc HB) hb; clear HB hb hz; have HB := HB'; clear HB'; have hz := HB.size
  go_wp2_with fail
  refine (bwrite_any _ _ _ _ _ HI.out (by simp [sz, bes_length])).mono ?_
  rintro e w2 ⟨rfl, HJ, hb⟩
  have Hx' := Lib.hid ((hb.block w.heap.size (by omega)).trans Hx.out); clear Hx; have Hx := Hx'; clear Hx'
  clear HI; have HI := Lib.hid HJ; clear HJ
  have HB' := HB.trans (hb.mono (by omega)); clear HB hb hz; have HB := HB'; clear HB'; have hz := HB.size
  have qx0 := (cell_of_block (k := 0) Hx.out rfl).1; have zx0 := (cell_of_block (k := 0) Hx.out rfl).2; have qx1 := (cell_of_block (k := 1) Hx.out rfl).1; have zx1 := (cell_of_block (k := 1) Hx.out rfl).2; have qx2 := (cell_of_block (k := 2) Hx.out rfl).1; have zx2 := (cell_of_block (k := 2) Hx.out rfl).2; have qx3 := (cell_of_block (k := 3) Hx.out rfl).1; have zx3 := (cell_of_block (k := 3) Hx.out rfl).2; have qx4 := (cell_of_block (k := 4) Hx.out rfl).1; have zx4 := (cell_of_block (k := 4) Hx.out rfl).2; have qx5 := (cell_of_block (k := 5) Hx.out rfl).1; have zx5 := (cell_of_block (k := 5) Hx.out rfl).2; have qx6 := (cell_of_block (k := 6) Hx.out rfl).1; have zx6 := (cell_of_block (k := 6) Hx.out rfl).2; have qx7 := (cell_of_block (k := 7) Hx.out rfl).1; have zx7 := (cell_of_block (k := 7) Hx.out rfl).2; have qx8 := (cell_of_block (k := 8) Hx.out rfl).1; have zx8 := (cell_of_block (k := 8) Hx.out rfl).2; have qx9 := (cell_of_block (k := 9) Hx.out rfl).1; have zx9 := (cell_of_block (k := 9) Hx.out rfl).2; have qx10 := (cell_of_block (k := 10) Hx.out rfl).1; have zx10 := (cell_of_block (k := 10) Hx.out rfl).2; have qx11 := (cell_of_block (k := 11) Hx.out rfl).1; have zx11 := (cell_of_block (k := 11) Hx.out rfl).2; have qx12 := (cell_of_block (k := 12) Hx.out rfl).1; have zx12 := (cell_of_block (k := 12) Hx.out rfl).2; have lt_x := blk_lt Hx.out
  go_wp2_with fail
  go_region_held3 (fun w' => w'.cell? ⟨w.heap.size, 0, none⟩ = some (.int .i64 fp) ∧ w'.cell? ⟨w.heap.size, 1, none⟩ = some (.int .i64 tp) ∧ w'.cell? ⟨w.heap.size, 2, none⟩ = some (.int .i64 sq) ∧ w'.cell? ⟨w.heap.size, 3, none⟩ = some (.int .i64 ack) ∧ w'.cell? ⟨w.heap.size, 4, none⟩ = some (.bool syn) ∧ w'.cell? ⟨w.heap.size, 5, none⟩ = some (.bool fin) ∧ w'.cell? ⟨w.heap.size, 6, none⟩ = some (.bool rst) ∧ w'.cell? ⟨w.heap.size, 7, none⟩ = some (.bool ha) ∧ w'.cell? ⟨w.heap.size, 8, none⟩ = some (.int .i64 win) ∧ w'.cell? ⟨w.heap.size, 9, none⟩ = some (.int .i64 mss) ∧ w'.cell? ⟨w.heap.size, 10, none⟩ = some (.bool sacks) ∧ w'.cell? ⟨w.heap.size, 11, none⟩ = some (.slice A n c) ∧ w'.cell? ⟨w.heap.size, 12, none⟩ = some (.string s)) (first | (go_split_ands; exact ⟨by assumption, by assumption, by assumption, by assumption, by assumption, by assumption, by assumption, by assumption, by assumption, by assumption, by assumption, by assumption, by assumption⟩) | exact ⟨qx0, qx1, qx2, qx3, qx4, qx5, qx6, qx7, qx8, qx9, qx10, qx11, qx12⟩ | (go_split_ands; exact ⟨bcell (by assumption) (by assumption), bcell (by assumption) (by assumption), bcell (by assumption) (by assumption), bcell (by assumption) (by assumption), bcell (by assumption) (by assumption), bcell (by assumption) (by assumption), bcell (by assumption) (by assumption), bcell (by assumption) (by assumption), bcell (by assumption) (by assumption), bcell (by assumption) (by assumption), bcell (by assumption) (by assumption), bcell (by assumption) (by assumption), bcell (by assumption) (by assumption)⟩) | (go_split_ands; exact ⟨cell_alloc' _ (by assumption), cell_alloc' _ (by assumption), cell_alloc' _ (by assumption), cell_alloc' _ (by assumption), cell_alloc' _ (by assumption), cell_alloc' _ (by assumption), cell_alloc' _ (by assumption), cell_alloc' _ (by assumption), cell_alloc' _ (by assumption), cell_alloc' _ (by assumption), cell_alloc' _ (by assumption), cell_alloc' _ (by assumption), cell_alloc' _ (by assumption)⟩) | (go_split_ands; exact ⟨bcellB hb5 (by omega) (by assumption), bcellB hb5 (by omega) (by assumption), bcellB hb5 (by omega) (by assumption), bcellB hb5 (by omega) (by assumption), bcellB hb5 (by omega) (by assumption), bcellB hb5 (by omega) (by assumption), bcellB hb5 (by omega) (by assumption), bcellB hb5 (by omega) (by assumption), bcellB hb5 (by omega) (by assumption), bcellB hb5 (by omega) (by assumption), bcellB hb5 (by omega) (by assumption), bcellB hb5 (by omega) (by assumption), bcellB hb5 (by omega) (by assumption)⟩))
    (first | (go_at_call 67; refine (HF.out _).mono ?_; rintro e w3 ⟨rfl, hb3⟩) | (go_at_call 31; refine (put_any 1 _ 2 2 [flagsOf syn fin rst ha sacks, (n : Int)] _ (by omega) (by omega) rfl (by omega) (by simp; omega) (by exact alloc_new' _ _ _ (by simp))).mono ?_; rintro e w4 ⟨rfl, hb4⟩) | (go_at_call 66; refine (bwrite_any _ _ _ _ _ (by exact isB_below (isB_alloc (isB_below (isB_drew HI.out) hb3) _) hb4) (by simp [sz, bes_length])).mono ?_; rintro e w5 ⟨rfl, HJ, hb5⟩))
  clear qx0 zx0 qx1 zx1 qx2 zx2 qx3 zx3 qx4 zx4 qx5 zx5 qx6 zx6 qx7 zx7 qx8 zx8 qx9 zx9 qx10 zx10 qx11 zx11 qx12 zx12 lt_x
  rename_i hH; clear hH
  have Hx' := Lib.hid ((hb5.block w.heap.size (by omega)).trans (bblock hb4 (block_alloc (bblock hb3 (by exact Hx.out)) _))); clear Hx; have Hx := Hx'; clear Hx'
  have HB' := (below_call (below_alloc (below_call HB.drew hb3)) hb4).trans (hb5.mono (by omega)); clear HB hb3 hb4 hb5 hz HI; have HB := HB'; clear HB'; have hz := HB.size
  have HI := Lib.hid HJ; clear HJ
  have qx8 := (cell_of_block (k := 8) Hx.out rfl).1; have zx8 := (cell_of_block (k := 8) Hx.out rfl).2; have qx9 := (cell_of_block (k := 9) Hx.out rfl).1; have zx9 := (cell_of_block (k := 9) Hx.out rfl).2; have qx11 := (cell_of_block (k := 11) Hx.out rfl).1; have zx11 := (cell_of_block (k := 11) Hx.out rfl).2; have lt_x := blk_lt Hx.out
  go_wp2_with fail
  clear qx8 zx8 qx9 zx9 qx11 zx11 lt_x
  refine (put_any 2 _ 3 3 [win, mss, sum] _ (by omega) (by omega) rfl (by omega) (by simp; omega) (by exact alloc_new' _ _ _ (by simp))).mono ?_
  rintro e w1 ⟨rfl, hb⟩
  have Hx' := Lib.hid (bblock hb (block_alloc Hx.out _)); clear Hx; have Hx := Hx'; clear Hx'
  have HI' := Lib.hid (isB_below (isB_alloc HI.out _) hb); clear HI; have HI := HI'; clear HI'
  have HB' := below_call (below_alloc HB) hb; clear HB hb hz; have HB := HB'; clear HB'; have hz := HB.size
  go_wp2_with fail
  refine (bwrite_any _ _ _ _ _ HI.out (by simp [sz, bes_length])).mono ?_
  rintro e w2 ⟨rfl, HJ, hb⟩
  have Hx' := Lib.hid ((hb.block w.heap.size (by omega)).trans Hx.out); clear Hx; have Hx := Hx'; clear Hx'
  clear HI; have HI := Lib.hid HJ; clear HJ
  have HB' := HB.trans (hb.mono (by omega)); clear HB hb hz; have HB := HB'; clear HB'; have hz := HB.size
  have qx8 := (cell_of_block (k := 8) Hx.out rfl).1; have zx8 := (cell_of_block (k := 8) Hx.out rfl).2; have qx9 := (cell_of_block (k := 9) Hx.out rfl).1; have zx9 := (cell_of_block (k := 9) Hx.out rfl).2; have qx11 := (cell_of_block (k := 11) Hx.out rfl).1; have zx11 := (cell_of_block (k := 11) Hx.out rfl).2; have qx12 := (cell_of_block (k := 12) Hx.out rfl).1; have zx12 := (cell_of_block (k := 12) Hx.out rfl).2; have lt_x := blk_lt Hx.out
  go_wp2_with fail
  have hLe : Hid ([] ++ bes 2 [fp, tp] ++ bes 4 [sq, ack] ++ bes 1 [flagsOf syn fin rst ha sacks, (n : Int)] ++ bes 2 [win, mss, sum] = bes 2 [fp, tp] ++ bes 4 [sq, ack] ++ bes 1 [flagsOf syn fin rst ha sacks, (bl.length : Int)] ++ bes 2 [win, mss, sum]) := Lib.hid (by rw [HL.out]; simp)
  clear HF hfl0 hfl1
  generalize ([] ++ bes 2 [fp, tp] ++ bes 4 [sq, ack] ++ bes 1 [flagsOf syn fin rst ha sacks, (n : Int)] ++ bes 2 [win, mss, sum]) = F at *
  have hFl : F.length ≤ 20 := by rw [hLe.out]; simp [bes_length]
  clear qx8 zx8 qx9 zx9 qx11 zx11 qx12 zx12 lt_x
  go_loopw [41] (fun i wr => ∃ k : Nat, k ≤ n ∧ i = .int .i64 (k : Int) ∧ IsB (w.heap.size + 1) (w.heap.size + 1) (F ++ blBytes (bl.take k)) wr ∧ wr.heap[w.heap.size]? = some (.cells #[.int .i64 fp, .int .i64 tp, .int .i64 sq, .int .i64 ack, .bool syn, .bool fin, .bool rst, .bool ha, .int .i64 win, .int .i64 mss, .bool sacks, .slice A n c, .string s] 24) ∧ Below w.heap.size w wr) (fun i _ => n - (intOf i).toNat)
  case atStart => exact ⟨0, by omega, rfl, by simpa [blBytes] using HI.out, Hx.out, HB⟩
  case round =>
    clear HI Hx HB hz
    obtain ⟨k, hk, rfl, hI, hX, HB⟩ := hrel
    have HI := Lib.hid hI; have Hx := Lib.hid hX; clear hI hX; have hz := HB.size
    have hlen : (blBytes (bl.take k)).length ≤ 24 := by rw [blBytes_length, List.length_take]; omega
    by_cases hlt : k < n
    · obtain ⟨g, a, b, rfl, hx, hg, c0, c1⟩ := HB0.out.at_ k hlt
      obtain ⟨⟨e1, e2⟩, ⟨e3, e4⟩, -⟩ := HB1.out k _ hx
      have HT : Hid (blBytes (bl.take (k + 1)) = blBytes (bl.take k) ++ bes 4 [a, b]) := Lib.hid (by rw [List.take_add_one, hx]; exact blBytes_snoc _ _)
      dsimp only at e1 e2 e3 e4
      clear hx
      generalize blBytes (bl.take k) = D at *
      have d0 := (HB.cell (p := ⟨g, k * 2, none⟩) hg).trans c0
      have d1 := (HB.cell (p := ⟨g, k * 2 + 1, none⟩) hg).trans c1
      clear c0 c1
      go_wp2_with fail
      clear d0 d1
      refine (put_any 4 _ 2 2 [a, b] _ (by omega) (by omega) rfl (by omega) (by simp; omega) (by exact alloc_new' _ _ _ (by simp))).mono ?_
      rintro e w1 ⟨rfl, hb⟩
      have Hx' := Lib.hid (bblock hb (block_alloc (block_alloc Hx.out _) _)); clear Hx; have Hx := Hx'; clear Hx'
      have HI' := Lib.hid (isB_below (isB_alloc (isB_alloc HI.out _) _) hb); clear HI; have HI := HI'; clear HI'
      have HB' := below_call (below_alloc (below_alloc HB)) hb; clear HB hb hz; have HB := HB'; clear HB'; have hz := HB.size
      go_wp2_with fail
      refine (bwrite_any _ _ _ _ _ HI.out (by simp [sz, bes_length]; omega)).mono ?_
      rintro e w2 ⟨rfl, HJ, hb⟩
      have HXX := (hb.block w.heap.size (by omega)).trans Hx.out
      have HB' := HB.trans (hb.mono (by omega))
      have HJ := Lib.hid HJ
      clear HI Hx HB hb hz
      have HXX := Lib.hid HXX
      go_wp2_with fail
      go_roundw
      case rel => exact ⟨k + 1, by omega, by go_num, by rw [HT.out, ← List.append_assoc]; exact HJ.out, HXX.out, HB'⟩
      case measure => simp [intOf]; omega
    · have hkn : k = n := by omega
      have HT : Hid (bl.take k = bl) := Lib.hid (List.take_of_length_le (by rw [HL.out]; omega))
      rw [HT.out] at HI hlen
      have qx12 := (cell_of_block (k := 12) Hx.out rfl).1; have zx12 := (cell_of_block (k := 12) Hx.out rfl).2; have lt_x := blk_lt Hx.out
      go_wp2_with fail
      clear qx12 zx12 lt_x
      refine (bwrite_any _ _ _ _ _ HI.out (by simp; omega)).mono ?_
      rintro e w2 ⟨rfl, HJ, hb⟩
      have HB' := HB.trans (hb.mono (by omega)); clear HI Hx HB hb hz
      have HJ := Lib.hid HJ; have hz := HB'.size
      go_wp2_with fail
      refine (bstring_any _ _ _ _ HJ.out).mono ?_
      rintro e w3 ⟨rfl, hb⟩
      go_wp2_with fail
      go_ret
      exact ⟨ret_str (by rw [hLe.out]; rfl), HB'.trans (hb.mono (by omega))⟩
end Go.Proofs.YtmgjcjacoegocaaDoor.Sg
