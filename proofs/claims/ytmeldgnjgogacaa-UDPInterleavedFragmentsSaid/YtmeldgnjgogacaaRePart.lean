/-
  The generators of the laws of chapter 07: PartOf.
-/
import Derived.Test.YtmeldgnjgogacaaReGen
namespace Go.Proofs.Ytmeldgnjgogacaa.Re
set_option maxRecDepth 100000
open Go.RowKit Go.Proofs.Ytmeldgnjgogacaa.Wire
open Go.Proofs.Ytmeldgnjgogacaa.Ip (Pk vlenB VLen)

def partN (lo : Nat) (mo : Bool) : Nat := if mo then 8 * (1 + lo % 3) else 1 + lo % 20
def partB (o n od : Nat) : List UInt8 := if od % 16 = 15 then 90 :: (bytesL o n).tail else bytesL o n
def partOf (wh of lo : Nat) (mo : Bool) (od : Nat) : Pk := { f := 1 + (wh : Int) % 3, t := 9, pr := 17, ttl := 1 + (od : Int) % 200, id := (wh : Int) % 12, df := false, mf := mo, off := 8 * ((of : Int) % 6), s := ⟨(partB (8 * (of % 6)) (partN lo mo) od).toArray⟩ }
theorem partN_le (lo : Nat) (mo : Bool) : 1 ≤ partN lo mo ∧ partN lo mo ≤ 24 := by unfold partN; split <;> omega
theorem partB_length (o n od : Nat) (hn : 1 ≤ n) : (partB o n od).length = n := by
  unfold partB
  split
  · rw [List.length_cons, List.length_tail, bytesL_length]; omega
  · exact bytesL_length o n
theorem partOf_size (wh of lo : Nat) (mo : Bool) (od : Nat) : (partOf wh of lo mo od).s.size = partN lo mo := partB_length _ _ _ (partN_le lo mo).1
theorem partOf_valid (wh of lo : Nat) (mo : Bool) (od : Nat) : vldB (partOf wh of lo mo od) = true := by
  unfold vldB vlenB
  refine decide_eq_true ?_
  have h1 := partN_le lo mo
  rw [partOf_size]
  refine ⟨⟨?_, ?_, ?_, ?_⟩, ⟨?_, ?_, ?_, ?_, ?_, ?_⟩, ⟨?_, ?_, ?_, ?_⟩, ?_, ?_, ?_⟩
  all_goals (unfold partOf; dsimp only)
  all_goals first | omega | skip
  · intro hm; subst hm; unfold partN; rw [if_pos rfl]; omega
  · intro h; cases h
theorem zdrop (l : List UInt8) : (⟨#[90]⟩ : ByteArray) ++ (⟨l.toArray⟩ : ByteArray).extract 1 l.length = ⟨(90 :: l.tail).toArray⟩ := by
  apply ByteArray.ext
  rw [ByteArray.data_append, ByteArray.data_extract]
  apply Array.ext'
  simp
  rw [List.take_of_length_le (by simp)]
def PRAW (wh of lo : Nat) (mo : Bool) (od : Nat) : Value := .agg #[.int .u8 (wh : Int), .int .u8 (of : Int), .int .u8 (lo : Int), .bool mo, .int .u8 (od : Int)]
set_option maxHeartbeats 8000000 in
theorem partOf_any (wh of lo : Nat) (mo : Bool) (od : Nat) (w : World) (h0 : wh < 256) (h1 : of < 256) (h2 : lo < 256) (h3 : od < 256) :
    Calls Try.prog 15 #[.agg #[.int .u8 (wh : Int), .int .u8 (of : Int), .int .u8 (lo : Int), .bool mo, .int .u8 (od : Int)]] w fun x w' => x = .returned (PkV (partOf wh of lo mo od)) ∧ Below w.heap.size w w' := by
  have HBY : Hid (∀ W, Calls Try.prog 32 #[.int .i64 (8 * ((of : Int) % 6)), .int .i64 (if mo then 8 * (1 + (lo : Int) % 3) else 1 + (lo : Int) % 20)] W fun x w' => x = .returned (.string ⟨(bytesL (8 * (of % 6)) (partN lo mo)).toArray⟩) ∧ Below W.heap.size W w') := Lib.hid fun W => by
    have := bytes_any (8 * (of % 6)) (partN lo mo) W (by omega) (by have := partN_le lo mo; omega)
    rw [show ((8 * (of % 6) : Nat) : Int) = 8 * ((of : Int) % 6) by omega, show ((partN lo mo : Nat) : Int) = (if mo then 8 * (1 + (lo : Int) % 3) else 1 + (lo : Int) % 20) by unfold partN; split <;> omega] at this
    exact this
  have hl := partN_le lo mo
  have hbl := bytesL_length (8 * (of % 6)) (partN lo mo)
  have HPB : Hid (partOf wh of lo mo od = { f := 1 + (wh : Int) % 3, t := 9, pr := 17, ttl := 1 + (od : Int) % 200, id := (wh : Int) % 12, df := false, mf := mo, off := 8 * ((of : Int) % 6), s := ⟨(if od % 16 = 15 then 90 :: (bytesL (8 * (of % 6)) (partN lo mo)).tail else bytesL (8 * (of % 6)) (partN lo mo)).toArray⟩ }) := Lib.hid rfl
  generalize partOf wh of lo mo od = P at *
  generalize bytesL (8 * (of % 6)) (partN lo mo) = BL at *
  have b0 : 0 ≤ (wh : Int) % 3 ∧ (wh : Int) % 3 < 3 := by omega
  have b1 : 0 ≤ (od : Int) % 200 ∧ (od : Int) % 200 < 200 := by omega
  have b2 : 0 ≤ (wh : Int) % 12 ∧ (wh : Int) % 12 < 12 := by omega
  have b3 : 0 ≤ (of : Int) % 6 ∧ (of : Int) % 6 < 6 := by omega
  have b4 : 0 ≤ (lo : Int) % 3 ∧ (lo : Int) % 3 < 3 := by omega
  have b5 : 0 ≤ (lo : Int) % 20 ∧ (lo : Int) % 20 < 20 := by omega
  have hBL : 1 ≤ BL.length ∧ BL.length ≤ 24 := by omega
  clear hl hbl
  by_cases ho : od % 16 = 15
  · have d1 : (((od : Int) % 16) == 15) = true := by rw [beq_iff_eq]; omega
    have HPB2 : Hid (P = { f := 1 + (wh : Int) % 3, t := 9, pr := 17, ttl := 1 + (od : Int) % 200, id := (wh : Int) % 12, df := false, mf := mo, off := 8 * ((of : Int) % 6), s := ⟨(90 :: BL.tail).toArray⟩ }) := Lib.hid (by rw [HPB.out, if_pos ho])
    clear HPB ho
    cases mo with
    | true =>
      rw [if_pos rfl] at HBY
      have HX := Lib.hid (block_alloc (block_alloc (alloc_new w (.cells #[.int .u8 (wh : Int), .int .u8 (of : Int), .int .u8 (lo : Int), .bool true, .int .u8 (od : Int)] 23)) (.cells #[.int .i64 0, .int .i64 0, .int .i64 0, .int .i64 0, .int .i64 0, .bool false, .bool false, .int .i64 0, .string ⟨#[]⟩] 30)) (.cells #[.int .i64 (1 + (wh : Int) % 3), .int .i64 9, .int .i64 17, .int .i64 (1 + (od : Int) % 200), .int .i64 ((wh : Int) % 12), .bool false, .bool true, .int .i64 (8 * ((of : Int) % 6)), .string ⟨#[]⟩] 30))
      have HR := Lib.hid (block_alloc (alloc_new' (w.alloc (.cells #[.int .u8 (wh : Int), .int .u8 (of : Int), .int .u8 (lo : Int), .bool true, .int .u8 (od : Int)] 23)) (.cells #[.int .i64 0, .int .i64 0, .int .i64 0, .int .i64 0, .int .i64 0, .bool false, .bool false, .int .i64 0, .string ⟨#[]⟩] 30) (w.heap.size + 1) (by simp)) (.cells #[.int .i64 (1 + (wh : Int) % 3), .int .i64 9, .int .i64 17, .int .i64 (1 + (od : Int) % 200), .int .i64 ((wh : Int) % 12), .bool false, .bool true, .int .i64 (8 * ((of : Int) % 6)), .string ⟨#[]⟩] 30))
      have HP := Lib.hid (alloc_new' ((w.alloc (.cells #[.int .u8 (wh : Int), .int .u8 (of : Int), .int .u8 (lo : Int), .bool true, .int .u8 (od : Int)] 23)).alloc (.cells #[.int .i64 0, .int .i64 0, .int .i64 0, .int .i64 0, .int .i64 0, .bool false, .bool false, .int .i64 0, .string ⟨#[]⟩] 30)) (.cells #[.int .i64 (1 + (wh : Int) % 3), .int .i64 9, .int .i64 17, .int .i64 (1 + (od : Int) % 200), .int .i64 ((wh : Int) % 12), .bool false, .bool true, .int .i64 (8 * ((of : Int) % 6)), .string ⟨#[]⟩] 30) (w.heap.size + 1 + 1) (by simp))
      have HB := Lib.hid (below_alloc (o := .cells #[.int .i64 (1 + (wh : Int) % 3), .int .i64 9, .int .i64 17, .int .i64 (1 + (od : Int) % 200), .int .i64 ((wh : Int) % 12), .bool false, .bool true, .int .i64 (8 * ((of : Int) % 6)), .string ⟨#[]⟩] 30) (below_alloc (o := .cells #[.int .i64 0, .int .i64 0, .int .i64 0, .int .i64 0, .int .i64 0, .bool false, .bool false, .int .i64 0, .string ⟨#[]⟩] 30) (below_alloc (o := .cells #[.int .u8 (wh : Int), .int .u8 (of : Int), .int .u8 (lo : Int), .bool true, .int .u8 (od : Int)] 23) (Below.refl w.heap.size w))))
      go_enter Try.func15, Try.ntmps15
      go_wp2_with fail
      refine (HBY.out _).mono ?_
      rintro x w1 ⟨rfl, hb⟩
      have HX' := Lib.hid (bblock hb HX.out); clear HX; have HX := HX'; clear HX'; have HR' := Lib.hid (bblock hb HR.out); clear HR; have HR := HR'; clear HR'; have HP' := Lib.hid (bblock hb HP.out); clear HP; have HP := HP'; clear HP'
      have HB' := below_call HB.out hb; clear HB hb; have HB := Lib.hid HB'; clear HB'
      have lz := HB.out.size
      have qP8 := (cell_of_block (k := 8) HP.out rfl).1; have zP8 := (cell_of_block (k := 8) HP.out rfl).2; have lt_P := blk_lt HP.out
      go_upto_region 6 with fail
      clear qP8 zP8 lt_P
      have HX' := Lib.hid (block_set_other (a := ⟨w.heap.size + 1 + 1, 8, none⟩) (u := .string ⟨BL.toArray⟩) HX.out (by first | (simp; done) | (simp; omega))); clear HX; have HX := HX'; clear HX'
      have HR' := Lib.hid (block_set_other (a := ⟨w.heap.size + 1 + 1, 8, none⟩) (u := .string ⟨BL.toArray⟩) HR.out (by first | (simp; done) | (simp; omega))); clear HR; have HR := HR'; clear HR'
      have HP' := Lib.hid (cells_eq (b := #[.int .i64 (1 + (wh : Int) % 3), .int .i64 9, .int .i64 17, .int .i64 (1 + (od : Int) % 200), .int .i64 ((wh : Int) % 12), .bool false, .bool true, .int .i64 (8 * ((of : Int) % 6)), .string ⟨BL.toArray⟩]) (block_setCell (k := 8) (v := .string ⟨BL.toArray⟩) HP.out) rfl); clear HP; have HP := HP'; clear HP'
      have HB' := Lib.hid (Below.setCell HB.out (p := ⟨w.heap.size + 1 + 1, 8, none⟩) (by simp; omega) (.string ⟨BL.toArray⟩)); clear HB; have HB := HB'; clear HB'
      generalize World.setCell w1 ⟨w.heap.size + 1 + 1, 8, none⟩ (.string ⟨BL.toArray⟩) = w2 at *
      have qX4 := (cell_of_block (k := 4) HX.out rfl).1; have zX4 := (cell_of_block (k := 4) HX.out rfl).2; have lt_X := blk_lt HX.out
      have qP8 := (cell_of_block (k := 8) HP.out rfl).1; have zP8 := (cell_of_block (k := 8) HP.out rfl).2; have lt_P := blk_lt HP.out
      have hBs : BL.length = (⟨BL.toArray⟩ : ByteArray).size := rfl
      have HBS := Lib.hid hBs; clear hBs
      have hexs : (⟨#[90]⟩ : ByteArray) ++ (⟨BL.toArray⟩ : ByteArray).extract 1 BL.length = ⟨(90 :: BL.tail).toArray⟩ := zdrop BL
      go_upto_region 8 with fail
      clear qX4 zX4 lt_X
      clear qP8 zP8 lt_P
      have HX' := Lib.hid (block_set_other (a := ⟨w.heap.size + 1 + 1, 8, none⟩) (u := .string ⟨(90 :: BL.tail).toArray⟩) HX.out (by first | (simp; done) | (simp; omega))); clear HX; have HX := HX'; clear HX'
      have HR' := Lib.hid (block_set_other (a := ⟨w.heap.size + 1 + 1, 8, none⟩) (u := .string ⟨(90 :: BL.tail).toArray⟩) HR.out (by first | (simp; done) | (simp; omega))); clear HR; have HR := HR'; clear HR'
      have HP' := Lib.hid (cells_eq (b := #[.int .i64 (1 + (wh : Int) % 3), .int .i64 9, .int .i64 17, .int .i64 (1 + (od : Int) % 200), .int .i64 ((wh : Int) % 12), .bool false, .bool true, .int .i64 (8 * ((of : Int) % 6)), .string ⟨(90 :: BL.tail).toArray⟩]) (block_setCell (k := 8) (v := .string ⟨(90 :: BL.tail).toArray⟩) HP.out) rfl); clear HP; have HP := HP'; clear HP'
      have HB' := Lib.hid (Below.setCell HB.out (p := ⟨w.heap.size + 1 + 1, 8, none⟩) (by simp; omega) (.string ⟨(90 :: BL.tail).toArray⟩)); clear HB; have HB := HB'; clear HB'
      generalize World.setCell w2 ⟨w.heap.size + 1 + 1, 8, none⟩ (.string ⟨(90 :: BL.tail).toArray⟩) = w3 at *
      have qP0 := (cell_of_block (k := 0) HP.out rfl).1; have zP0 := (cell_of_block (k := 0) HP.out rfl).2; have qP1 := (cell_of_block (k := 1) HP.out rfl).1; have zP1 := (cell_of_block (k := 1) HP.out rfl).2; have qP2 := (cell_of_block (k := 2) HP.out rfl).1; have zP2 := (cell_of_block (k := 2) HP.out rfl).2; have qP3 := (cell_of_block (k := 3) HP.out rfl).1; have zP3 := (cell_of_block (k := 3) HP.out rfl).2; have qP4 := (cell_of_block (k := 4) HP.out rfl).1; have zP4 := (cell_of_block (k := 4) HP.out rfl).2; have qP5 := (cell_of_block (k := 5) HP.out rfl).1; have zP5 := (cell_of_block (k := 5) HP.out rfl).2; have qP6 := (cell_of_block (k := 6) HP.out rfl).1; have zP6 := (cell_of_block (k := 6) HP.out rfl).2; have qP7 := (cell_of_block (k := 7) HP.out rfl).1; have zP7 := (cell_of_block (k := 7) HP.out rfl).2; have qP8 := (cell_of_block (k := 8) HP.out rfl).1; have zP8 := (cell_of_block (k := 8) HP.out rfl).2; have lt_P := blk_lt HP.out
      have qR0 := (cell_of_block (k := 0) HR.out rfl).1; have zR0 := (cell_of_block (k := 0) HR.out rfl).2; have qR1 := (cell_of_block (k := 1) HR.out rfl).1; have zR1 := (cell_of_block (k := 1) HR.out rfl).2; have qR2 := (cell_of_block (k := 2) HR.out rfl).1; have zR2 := (cell_of_block (k := 2) HR.out rfl).2; have qR3 := (cell_of_block (k := 3) HR.out rfl).1; have zR3 := (cell_of_block (k := 3) HR.out rfl).2; have qR4 := (cell_of_block (k := 4) HR.out rfl).1; have zR4 := (cell_of_block (k := 4) HR.out rfl).2; have qR5 := (cell_of_block (k := 5) HR.out rfl).1; have zR5 := (cell_of_block (k := 5) HR.out rfl).2; have qR6 := (cell_of_block (k := 6) HR.out rfl).1; have zR6 := (cell_of_block (k := 6) HR.out rfl).2; have qR7 := (cell_of_block (k := 7) HR.out rfl).1; have zR7 := (cell_of_block (k := 7) HR.out rfl).2; have qR8 := (cell_of_block (k := 8) HR.out rfl).1; have zR8 := (cell_of_block (k := 8) HR.out rfl).2; have lt_R := blk_lt HR.out
      go_wp2_with fail
      have HZ := stN_all [.int .i64 (1 + (wh : Int) % 3), .int .i64 9, .int .i64 17, .int .i64 (1 + (od : Int) % 200), .int .i64 ((wh : Int) % 12), .bool false, .bool true, .int .i64 (8 * ((of : Int) % 6)), .string ⟨(90 :: BL.tail).toArray⟩] HR.out rfl
      refine bodyPost_ret (v := .agg #[.int .i64 (1 + (wh : Int) % 3), .int .i64 9, .int .i64 17, .int .i64 (1 + (od : Int) % 200), .int .i64 ((wh : Int) % 12), .bool false, .bool true, .int .i64 (8 * ((of : Int) % 6)), .string ⟨(90 :: BL.tail).toArray⟩]) (res_cell1 Try.results15 (by exact HZ) rfl Try.underlying30 rfl infoPkt) rfl ?_
      exact ⟨by unfold PkV; rw [HPB2.out], stN_below (by simp) [.int .i64 (1 + (wh : Int) % 3), .int .i64 9, .int .i64 17, .int .i64 (1 + (od : Int) % 200), .int .i64 ((wh : Int) % 12), .bool false, .bool true, .int .i64 (8 * ((of : Int) % 6)), .string ⟨(90 :: BL.tail).toArray⟩] _ 0 HB.out⟩
    | false =>
      rw [if_neg (by simp)] at HBY
      have HX := Lib.hid (block_alloc (block_alloc (alloc_new w (.cells #[.int .u8 (wh : Int), .int .u8 (of : Int), .int .u8 (lo : Int), .bool false, .int .u8 (od : Int)] 23)) (.cells #[.int .i64 0, .int .i64 0, .int .i64 0, .int .i64 0, .int .i64 0, .bool false, .bool false, .int .i64 0, .string ⟨#[]⟩] 30)) (.cells #[.int .i64 (1 + (wh : Int) % 3), .int .i64 9, .int .i64 17, .int .i64 (1 + (od : Int) % 200), .int .i64 ((wh : Int) % 12), .bool false, .bool false, .int .i64 (8 * ((of : Int) % 6)), .string ⟨#[]⟩] 30))
      have HR := Lib.hid (block_alloc (alloc_new' (w.alloc (.cells #[.int .u8 (wh : Int), .int .u8 (of : Int), .int .u8 (lo : Int), .bool false, .int .u8 (od : Int)] 23)) (.cells #[.int .i64 0, .int .i64 0, .int .i64 0, .int .i64 0, .int .i64 0, .bool false, .bool false, .int .i64 0, .string ⟨#[]⟩] 30) (w.heap.size + 1) (by simp)) (.cells #[.int .i64 (1 + (wh : Int) % 3), .int .i64 9, .int .i64 17, .int .i64 (1 + (od : Int) % 200), .int .i64 ((wh : Int) % 12), .bool false, .bool false, .int .i64 (8 * ((of : Int) % 6)), .string ⟨#[]⟩] 30))
      have HP := Lib.hid (alloc_new' ((w.alloc (.cells #[.int .u8 (wh : Int), .int .u8 (of : Int), .int .u8 (lo : Int), .bool false, .int .u8 (od : Int)] 23)).alloc (.cells #[.int .i64 0, .int .i64 0, .int .i64 0, .int .i64 0, .int .i64 0, .bool false, .bool false, .int .i64 0, .string ⟨#[]⟩] 30)) (.cells #[.int .i64 (1 + (wh : Int) % 3), .int .i64 9, .int .i64 17, .int .i64 (1 + (od : Int) % 200), .int .i64 ((wh : Int) % 12), .bool false, .bool false, .int .i64 (8 * ((of : Int) % 6)), .string ⟨#[]⟩] 30) (w.heap.size + 1 + 1) (by simp))
      have HB := Lib.hid (below_alloc (o := .cells #[.int .i64 (1 + (wh : Int) % 3), .int .i64 9, .int .i64 17, .int .i64 (1 + (od : Int) % 200), .int .i64 ((wh : Int) % 12), .bool false, .bool false, .int .i64 (8 * ((of : Int) % 6)), .string ⟨#[]⟩] 30) (below_alloc (o := .cells #[.int .i64 0, .int .i64 0, .int .i64 0, .int .i64 0, .int .i64 0, .bool false, .bool false, .int .i64 0, .string ⟨#[]⟩] 30) (below_alloc (o := .cells #[.int .u8 (wh : Int), .int .u8 (of : Int), .int .u8 (lo : Int), .bool false, .int .u8 (od : Int)] 23) (Below.refl w.heap.size w))))
      go_enter Try.func15, Try.ntmps15
      go_wp2_with fail
      refine (HBY.out _).mono ?_
      rintro x w1 ⟨rfl, hb⟩
      have HX' := Lib.hid (bblock hb HX.out); clear HX; have HX := HX'; clear HX'; have HR' := Lib.hid (bblock hb HR.out); clear HR; have HR := HR'; clear HR'; have HP' := Lib.hid (bblock hb HP.out); clear HP; have HP := HP'; clear HP'
      have HB' := below_call HB.out hb; clear HB hb; have HB := Lib.hid HB'; clear HB'
      have lz := HB.out.size
      have qP8 := (cell_of_block (k := 8) HP.out rfl).1; have zP8 := (cell_of_block (k := 8) HP.out rfl).2; have lt_P := blk_lt HP.out
      go_upto_region 6 with fail
      clear qP8 zP8 lt_P
      have HX' := Lib.hid (block_set_other (a := ⟨w.heap.size + 1 + 1, 8, none⟩) (u := .string ⟨BL.toArray⟩) HX.out (by first | (simp; done) | (simp; omega))); clear HX; have HX := HX'; clear HX'
      have HR' := Lib.hid (block_set_other (a := ⟨w.heap.size + 1 + 1, 8, none⟩) (u := .string ⟨BL.toArray⟩) HR.out (by first | (simp; done) | (simp; omega))); clear HR; have HR := HR'; clear HR'
      have HP' := Lib.hid (cells_eq (b := #[.int .i64 (1 + (wh : Int) % 3), .int .i64 9, .int .i64 17, .int .i64 (1 + (od : Int) % 200), .int .i64 ((wh : Int) % 12), .bool false, .bool false, .int .i64 (8 * ((of : Int) % 6)), .string ⟨BL.toArray⟩]) (block_setCell (k := 8) (v := .string ⟨BL.toArray⟩) HP.out) rfl); clear HP; have HP := HP'; clear HP'
      have HB' := Lib.hid (Below.setCell HB.out (p := ⟨w.heap.size + 1 + 1, 8, none⟩) (by simp; omega) (.string ⟨BL.toArray⟩)); clear HB; have HB := HB'; clear HB'
      generalize World.setCell w1 ⟨w.heap.size + 1 + 1, 8, none⟩ (.string ⟨BL.toArray⟩) = w2 at *
      have qX4 := (cell_of_block (k := 4) HX.out rfl).1; have zX4 := (cell_of_block (k := 4) HX.out rfl).2; have lt_X := blk_lt HX.out
      have qP8 := (cell_of_block (k := 8) HP.out rfl).1; have zP8 := (cell_of_block (k := 8) HP.out rfl).2; have lt_P := blk_lt HP.out
      have hBs : BL.length = (⟨BL.toArray⟩ : ByteArray).size := rfl
      have HBS := Lib.hid hBs; clear hBs
      have hexs : (⟨#[90]⟩ : ByteArray) ++ (⟨BL.toArray⟩ : ByteArray).extract 1 BL.length = ⟨(90 :: BL.tail).toArray⟩ := zdrop BL
      go_upto_region 8 with fail
      clear qX4 zX4 lt_X
      clear qP8 zP8 lt_P
      have HX' := Lib.hid (block_set_other (a := ⟨w.heap.size + 1 + 1, 8, none⟩) (u := .string ⟨(90 :: BL.tail).toArray⟩) HX.out (by first | (simp; done) | (simp; omega))); clear HX; have HX := HX'; clear HX'
      have HR' := Lib.hid (block_set_other (a := ⟨w.heap.size + 1 + 1, 8, none⟩) (u := .string ⟨(90 :: BL.tail).toArray⟩) HR.out (by first | (simp; done) | (simp; omega))); clear HR; have HR := HR'; clear HR'
      have HP' := Lib.hid (cells_eq (b := #[.int .i64 (1 + (wh : Int) % 3), .int .i64 9, .int .i64 17, .int .i64 (1 + (od : Int) % 200), .int .i64 ((wh : Int) % 12), .bool false, .bool false, .int .i64 (8 * ((of : Int) % 6)), .string ⟨(90 :: BL.tail).toArray⟩]) (block_setCell (k := 8) (v := .string ⟨(90 :: BL.tail).toArray⟩) HP.out) rfl); clear HP; have HP := HP'; clear HP'
      have HB' := Lib.hid (Below.setCell HB.out (p := ⟨w.heap.size + 1 + 1, 8, none⟩) (by simp; omega) (.string ⟨(90 :: BL.tail).toArray⟩)); clear HB; have HB := HB'; clear HB'
      generalize World.setCell w2 ⟨w.heap.size + 1 + 1, 8, none⟩ (.string ⟨(90 :: BL.tail).toArray⟩) = w3 at *
      have qP0 := (cell_of_block (k := 0) HP.out rfl).1; have zP0 := (cell_of_block (k := 0) HP.out rfl).2; have qP1 := (cell_of_block (k := 1) HP.out rfl).1; have zP1 := (cell_of_block (k := 1) HP.out rfl).2; have qP2 := (cell_of_block (k := 2) HP.out rfl).1; have zP2 := (cell_of_block (k := 2) HP.out rfl).2; have qP3 := (cell_of_block (k := 3) HP.out rfl).1; have zP3 := (cell_of_block (k := 3) HP.out rfl).2; have qP4 := (cell_of_block (k := 4) HP.out rfl).1; have zP4 := (cell_of_block (k := 4) HP.out rfl).2; have qP5 := (cell_of_block (k := 5) HP.out rfl).1; have zP5 := (cell_of_block (k := 5) HP.out rfl).2; have qP6 := (cell_of_block (k := 6) HP.out rfl).1; have zP6 := (cell_of_block (k := 6) HP.out rfl).2; have qP7 := (cell_of_block (k := 7) HP.out rfl).1; have zP7 := (cell_of_block (k := 7) HP.out rfl).2; have qP8 := (cell_of_block (k := 8) HP.out rfl).1; have zP8 := (cell_of_block (k := 8) HP.out rfl).2; have lt_P := blk_lt HP.out
      have qR0 := (cell_of_block (k := 0) HR.out rfl).1; have zR0 := (cell_of_block (k := 0) HR.out rfl).2; have qR1 := (cell_of_block (k := 1) HR.out rfl).1; have zR1 := (cell_of_block (k := 1) HR.out rfl).2; have qR2 := (cell_of_block (k := 2) HR.out rfl).1; have zR2 := (cell_of_block (k := 2) HR.out rfl).2; have qR3 := (cell_of_block (k := 3) HR.out rfl).1; have zR3 := (cell_of_block (k := 3) HR.out rfl).2; have qR4 := (cell_of_block (k := 4) HR.out rfl).1; have zR4 := (cell_of_block (k := 4) HR.out rfl).2; have qR5 := (cell_of_block (k := 5) HR.out rfl).1; have zR5 := (cell_of_block (k := 5) HR.out rfl).2; have qR6 := (cell_of_block (k := 6) HR.out rfl).1; have zR6 := (cell_of_block (k := 6) HR.out rfl).2; have qR7 := (cell_of_block (k := 7) HR.out rfl).1; have zR7 := (cell_of_block (k := 7) HR.out rfl).2; have qR8 := (cell_of_block (k := 8) HR.out rfl).1; have zR8 := (cell_of_block (k := 8) HR.out rfl).2; have lt_R := blk_lt HR.out
      go_wp2_with fail
      have HZ := stN_all [.int .i64 (1 + (wh : Int) % 3), .int .i64 9, .int .i64 17, .int .i64 (1 + (od : Int) % 200), .int .i64 ((wh : Int) % 12), .bool false, .bool false, .int .i64 (8 * ((of : Int) % 6)), .string ⟨(90 :: BL.tail).toArray⟩] HR.out rfl
      refine bodyPost_ret (v := .agg #[.int .i64 (1 + (wh : Int) % 3), .int .i64 9, .int .i64 17, .int .i64 (1 + (od : Int) % 200), .int .i64 ((wh : Int) % 12), .bool false, .bool false, .int .i64 (8 * ((of : Int) % 6)), .string ⟨(90 :: BL.tail).toArray⟩]) (res_cell1 Try.results15 (by exact HZ) rfl Try.underlying30 rfl infoPkt) rfl ?_
      exact ⟨by unfold PkV; rw [HPB2.out], stN_below (by simp) [.int .i64 (1 + (wh : Int) % 3), .int .i64 9, .int .i64 17, .int .i64 (1 + (od : Int) % 200), .int .i64 ((wh : Int) % 12), .bool false, .bool false, .int .i64 (8 * ((of : Int) % 6)), .string ⟨(90 :: BL.tail).toArray⟩] _ 0 HB.out⟩
  · have d1 : (((od : Int) % 16) == 15) = false := by rw [beq_eq_false_iff_ne]; omega
    have HPB2 : Hid (P = { f := 1 + (wh : Int) % 3, t := 9, pr := 17, ttl := 1 + (od : Int) % 200, id := (wh : Int) % 12, df := false, mf := mo, off := 8 * ((of : Int) % 6), s := ⟨BL.toArray⟩ }) := Lib.hid (by rw [HPB.out, if_neg ho])
    clear HPB ho
    cases mo with
    | true =>
      rw [if_pos rfl] at HBY
      have HX := Lib.hid (block_alloc (block_alloc (alloc_new w (.cells #[.int .u8 (wh : Int), .int .u8 (of : Int), .int .u8 (lo : Int), .bool true, .int .u8 (od : Int)] 23)) (.cells #[.int .i64 0, .int .i64 0, .int .i64 0, .int .i64 0, .int .i64 0, .bool false, .bool false, .int .i64 0, .string ⟨#[]⟩] 30)) (.cells #[.int .i64 (1 + (wh : Int) % 3), .int .i64 9, .int .i64 17, .int .i64 (1 + (od : Int) % 200), .int .i64 ((wh : Int) % 12), .bool false, .bool true, .int .i64 (8 * ((of : Int) % 6)), .string ⟨#[]⟩] 30))
      have HR := Lib.hid (block_alloc (alloc_new' (w.alloc (.cells #[.int .u8 (wh : Int), .int .u8 (of : Int), .int .u8 (lo : Int), .bool true, .int .u8 (od : Int)] 23)) (.cells #[.int .i64 0, .int .i64 0, .int .i64 0, .int .i64 0, .int .i64 0, .bool false, .bool false, .int .i64 0, .string ⟨#[]⟩] 30) (w.heap.size + 1) (by simp)) (.cells #[.int .i64 (1 + (wh : Int) % 3), .int .i64 9, .int .i64 17, .int .i64 (1 + (od : Int) % 200), .int .i64 ((wh : Int) % 12), .bool false, .bool true, .int .i64 (8 * ((of : Int) % 6)), .string ⟨#[]⟩] 30))
      have HP := Lib.hid (alloc_new' ((w.alloc (.cells #[.int .u8 (wh : Int), .int .u8 (of : Int), .int .u8 (lo : Int), .bool true, .int .u8 (od : Int)] 23)).alloc (.cells #[.int .i64 0, .int .i64 0, .int .i64 0, .int .i64 0, .int .i64 0, .bool false, .bool false, .int .i64 0, .string ⟨#[]⟩] 30)) (.cells #[.int .i64 (1 + (wh : Int) % 3), .int .i64 9, .int .i64 17, .int .i64 (1 + (od : Int) % 200), .int .i64 ((wh : Int) % 12), .bool false, .bool true, .int .i64 (8 * ((of : Int) % 6)), .string ⟨#[]⟩] 30) (w.heap.size + 1 + 1) (by simp))
      have HB := Lib.hid (below_alloc (o := .cells #[.int .i64 (1 + (wh : Int) % 3), .int .i64 9, .int .i64 17, .int .i64 (1 + (od : Int) % 200), .int .i64 ((wh : Int) % 12), .bool false, .bool true, .int .i64 (8 * ((of : Int) % 6)), .string ⟨#[]⟩] 30) (below_alloc (o := .cells #[.int .i64 0, .int .i64 0, .int .i64 0, .int .i64 0, .int .i64 0, .bool false, .bool false, .int .i64 0, .string ⟨#[]⟩] 30) (below_alloc (o := .cells #[.int .u8 (wh : Int), .int .u8 (of : Int), .int .u8 (lo : Int), .bool true, .int .u8 (od : Int)] 23) (Below.refl w.heap.size w))))
      go_enter Try.func15, Try.ntmps15
      go_wp2_with fail
      refine (HBY.out _).mono ?_
      rintro x w1 ⟨rfl, hb⟩
      have HX' := Lib.hid (bblock hb HX.out); clear HX; have HX := HX'; clear HX'; have HR' := Lib.hid (bblock hb HR.out); clear HR; have HR := HR'; clear HR'; have HP' := Lib.hid (bblock hb HP.out); clear HP; have HP := HP'; clear HP'
      have HB' := below_call HB.out hb; clear HB hb; have HB := Lib.hid HB'; clear HB'
      have lz := HB.out.size
      have qP8 := (cell_of_block (k := 8) HP.out rfl).1; have zP8 := (cell_of_block (k := 8) HP.out rfl).2; have lt_P := blk_lt HP.out
      go_upto_region 6 with fail
      clear qP8 zP8 lt_P
      have HX' := Lib.hid (block_set_other (a := ⟨w.heap.size + 1 + 1, 8, none⟩) (u := .string ⟨BL.toArray⟩) HX.out (by first | (simp; done) | (simp; omega))); clear HX; have HX := HX'; clear HX'
      have HR' := Lib.hid (block_set_other (a := ⟨w.heap.size + 1 + 1, 8, none⟩) (u := .string ⟨BL.toArray⟩) HR.out (by first | (simp; done) | (simp; omega))); clear HR; have HR := HR'; clear HR'
      have HP' := Lib.hid (cells_eq (b := #[.int .i64 (1 + (wh : Int) % 3), .int .i64 9, .int .i64 17, .int .i64 (1 + (od : Int) % 200), .int .i64 ((wh : Int) % 12), .bool false, .bool true, .int .i64 (8 * ((of : Int) % 6)), .string ⟨BL.toArray⟩]) (block_setCell (k := 8) (v := .string ⟨BL.toArray⟩) HP.out) rfl); clear HP; have HP := HP'; clear HP'
      have HB' := Lib.hid (Below.setCell HB.out (p := ⟨w.heap.size + 1 + 1, 8, none⟩) (by simp; omega) (.string ⟨BL.toArray⟩)); clear HB; have HB := HB'; clear HB'
      generalize World.setCell w1 ⟨w.heap.size + 1 + 1, 8, none⟩ (.string ⟨BL.toArray⟩) = w2 at *
      have qX4 := (cell_of_block (k := 4) HX.out rfl).1; have zX4 := (cell_of_block (k := 4) HX.out rfl).2; have lt_X := blk_lt HX.out
      go_upto_region 8 with fail
      clear qX4 zX4 lt_X
      have qP0 := (cell_of_block (k := 0) HP.out rfl).1; have zP0 := (cell_of_block (k := 0) HP.out rfl).2; have qP1 := (cell_of_block (k := 1) HP.out rfl).1; have zP1 := (cell_of_block (k := 1) HP.out rfl).2; have qP2 := (cell_of_block (k := 2) HP.out rfl).1; have zP2 := (cell_of_block (k := 2) HP.out rfl).2; have qP3 := (cell_of_block (k := 3) HP.out rfl).1; have zP3 := (cell_of_block (k := 3) HP.out rfl).2; have qP4 := (cell_of_block (k := 4) HP.out rfl).1; have zP4 := (cell_of_block (k := 4) HP.out rfl).2; have qP5 := (cell_of_block (k := 5) HP.out rfl).1; have zP5 := (cell_of_block (k := 5) HP.out rfl).2; have qP6 := (cell_of_block (k := 6) HP.out rfl).1; have zP6 := (cell_of_block (k := 6) HP.out rfl).2; have qP7 := (cell_of_block (k := 7) HP.out rfl).1; have zP7 := (cell_of_block (k := 7) HP.out rfl).2; have qP8 := (cell_of_block (k := 8) HP.out rfl).1; have zP8 := (cell_of_block (k := 8) HP.out rfl).2; have lt_P := blk_lt HP.out
      have qR0 := (cell_of_block (k := 0) HR.out rfl).1; have zR0 := (cell_of_block (k := 0) HR.out rfl).2; have qR1 := (cell_of_block (k := 1) HR.out rfl).1; have zR1 := (cell_of_block (k := 1) HR.out rfl).2; have qR2 := (cell_of_block (k := 2) HR.out rfl).1; have zR2 := (cell_of_block (k := 2) HR.out rfl).2; have qR3 := (cell_of_block (k := 3) HR.out rfl).1; have zR3 := (cell_of_block (k := 3) HR.out rfl).2; have qR4 := (cell_of_block (k := 4) HR.out rfl).1; have zR4 := (cell_of_block (k := 4) HR.out rfl).2; have qR5 := (cell_of_block (k := 5) HR.out rfl).1; have zR5 := (cell_of_block (k := 5) HR.out rfl).2; have qR6 := (cell_of_block (k := 6) HR.out rfl).1; have zR6 := (cell_of_block (k := 6) HR.out rfl).2; have qR7 := (cell_of_block (k := 7) HR.out rfl).1; have zR7 := (cell_of_block (k := 7) HR.out rfl).2; have qR8 := (cell_of_block (k := 8) HR.out rfl).1; have zR8 := (cell_of_block (k := 8) HR.out rfl).2; have lt_R := blk_lt HR.out
      go_wp2_with fail
      have HZ := stN_all [.int .i64 (1 + (wh : Int) % 3), .int .i64 9, .int .i64 17, .int .i64 (1 + (od : Int) % 200), .int .i64 ((wh : Int) % 12), .bool false, .bool true, .int .i64 (8 * ((of : Int) % 6)), .string ⟨BL.toArray⟩] HR.out rfl
      refine bodyPost_ret (v := .agg #[.int .i64 (1 + (wh : Int) % 3), .int .i64 9, .int .i64 17, .int .i64 (1 + (od : Int) % 200), .int .i64 ((wh : Int) % 12), .bool false, .bool true, .int .i64 (8 * ((of : Int) % 6)), .string ⟨BL.toArray⟩]) (res_cell1 Try.results15 (by exact HZ) rfl Try.underlying30 rfl infoPkt) rfl ?_
      exact ⟨by unfold PkV; rw [HPB2.out], stN_below (by simp) [.int .i64 (1 + (wh : Int) % 3), .int .i64 9, .int .i64 17, .int .i64 (1 + (od : Int) % 200), .int .i64 ((wh : Int) % 12), .bool false, .bool true, .int .i64 (8 * ((of : Int) % 6)), .string ⟨BL.toArray⟩] _ 0 HB.out⟩
    | false =>
      rw [if_neg (by simp)] at HBY
      have HX := Lib.hid (block_alloc (block_alloc (alloc_new w (.cells #[.int .u8 (wh : Int), .int .u8 (of : Int), .int .u8 (lo : Int), .bool false, .int .u8 (od : Int)] 23)) (.cells #[.int .i64 0, .int .i64 0, .int .i64 0, .int .i64 0, .int .i64 0, .bool false, .bool false, .int .i64 0, .string ⟨#[]⟩] 30)) (.cells #[.int .i64 (1 + (wh : Int) % 3), .int .i64 9, .int .i64 17, .int .i64 (1 + (od : Int) % 200), .int .i64 ((wh : Int) % 12), .bool false, .bool false, .int .i64 (8 * ((of : Int) % 6)), .string ⟨#[]⟩] 30))
      have HR := Lib.hid (block_alloc (alloc_new' (w.alloc (.cells #[.int .u8 (wh : Int), .int .u8 (of : Int), .int .u8 (lo : Int), .bool false, .int .u8 (od : Int)] 23)) (.cells #[.int .i64 0, .int .i64 0, .int .i64 0, .int .i64 0, .int .i64 0, .bool false, .bool false, .int .i64 0, .string ⟨#[]⟩] 30) (w.heap.size + 1) (by simp)) (.cells #[.int .i64 (1 + (wh : Int) % 3), .int .i64 9, .int .i64 17, .int .i64 (1 + (od : Int) % 200), .int .i64 ((wh : Int) % 12), .bool false, .bool false, .int .i64 (8 * ((of : Int) % 6)), .string ⟨#[]⟩] 30))
      have HP := Lib.hid (alloc_new' ((w.alloc (.cells #[.int .u8 (wh : Int), .int .u8 (of : Int), .int .u8 (lo : Int), .bool false, .int .u8 (od : Int)] 23)).alloc (.cells #[.int .i64 0, .int .i64 0, .int .i64 0, .int .i64 0, .int .i64 0, .bool false, .bool false, .int .i64 0, .string ⟨#[]⟩] 30)) (.cells #[.int .i64 (1 + (wh : Int) % 3), .int .i64 9, .int .i64 17, .int .i64 (1 + (od : Int) % 200), .int .i64 ((wh : Int) % 12), .bool false, .bool false, .int .i64 (8 * ((of : Int) % 6)), .string ⟨#[]⟩] 30) (w.heap.size + 1 + 1) (by simp))
      have HB := Lib.hid (below_alloc (o := .cells #[.int .i64 (1 + (wh : Int) % 3), .int .i64 9, .int .i64 17, .int .i64 (1 + (od : Int) % 200), .int .i64 ((wh : Int) % 12), .bool false, .bool false, .int .i64 (8 * ((of : Int) % 6)), .string ⟨#[]⟩] 30) (below_alloc (o := .cells #[.int .i64 0, .int .i64 0, .int .i64 0, .int .i64 0, .int .i64 0, .bool false, .bool false, .int .i64 0, .string ⟨#[]⟩] 30) (below_alloc (o := .cells #[.int .u8 (wh : Int), .int .u8 (of : Int), .int .u8 (lo : Int), .bool false, .int .u8 (od : Int)] 23) (Below.refl w.heap.size w))))
      go_enter Try.func15, Try.ntmps15
      go_wp2_with fail
      refine (HBY.out _).mono ?_
      rintro x w1 ⟨rfl, hb⟩
      have HX' := Lib.hid (bblock hb HX.out); clear HX; have HX := HX'; clear HX'; have HR' := Lib.hid (bblock hb HR.out); clear HR; have HR := HR'; clear HR'; have HP' := Lib.hid (bblock hb HP.out); clear HP; have HP := HP'; clear HP'
      have HB' := below_call HB.out hb; clear HB hb; have HB := Lib.hid HB'; clear HB'
      have lz := HB.out.size
      have qP8 := (cell_of_block (k := 8) HP.out rfl).1; have zP8 := (cell_of_block (k := 8) HP.out rfl).2; have lt_P := blk_lt HP.out
      go_upto_region 6 with fail
      clear qP8 zP8 lt_P
      have HX' := Lib.hid (block_set_other (a := ⟨w.heap.size + 1 + 1, 8, none⟩) (u := .string ⟨BL.toArray⟩) HX.out (by first | (simp; done) | (simp; omega))); clear HX; have HX := HX'; clear HX'
      have HR' := Lib.hid (block_set_other (a := ⟨w.heap.size + 1 + 1, 8, none⟩) (u := .string ⟨BL.toArray⟩) HR.out (by first | (simp; done) | (simp; omega))); clear HR; have HR := HR'; clear HR'
      have HP' := Lib.hid (cells_eq (b := #[.int .i64 (1 + (wh : Int) % 3), .int .i64 9, .int .i64 17, .int .i64 (1 + (od : Int) % 200), .int .i64 ((wh : Int) % 12), .bool false, .bool false, .int .i64 (8 * ((of : Int) % 6)), .string ⟨BL.toArray⟩]) (block_setCell (k := 8) (v := .string ⟨BL.toArray⟩) HP.out) rfl); clear HP; have HP := HP'; clear HP'
      have HB' := Lib.hid (Below.setCell HB.out (p := ⟨w.heap.size + 1 + 1, 8, none⟩) (by simp; omega) (.string ⟨BL.toArray⟩)); clear HB; have HB := HB'; clear HB'
      generalize World.setCell w1 ⟨w.heap.size + 1 + 1, 8, none⟩ (.string ⟨BL.toArray⟩) = w2 at *
      have qX4 := (cell_of_block (k := 4) HX.out rfl).1; have zX4 := (cell_of_block (k := 4) HX.out rfl).2; have lt_X := blk_lt HX.out
      go_upto_region 8 with fail
      clear qX4 zX4 lt_X
      have qP0 := (cell_of_block (k := 0) HP.out rfl).1; have zP0 := (cell_of_block (k := 0) HP.out rfl).2; have qP1 := (cell_of_block (k := 1) HP.out rfl).1; have zP1 := (cell_of_block (k := 1) HP.out rfl).2; have qP2 := (cell_of_block (k := 2) HP.out rfl).1; have zP2 := (cell_of_block (k := 2) HP.out rfl).2; have qP3 := (cell_of_block (k := 3) HP.out rfl).1; have zP3 := (cell_of_block (k := 3) HP.out rfl).2; have qP4 := (cell_of_block (k := 4) HP.out rfl).1; have zP4 := (cell_of_block (k := 4) HP.out rfl).2; have qP5 := (cell_of_block (k := 5) HP.out rfl).1; have zP5 := (cell_of_block (k := 5) HP.out rfl).2; have qP6 := (cell_of_block (k := 6) HP.out rfl).1; have zP6 := (cell_of_block (k := 6) HP.out rfl).2; have qP7 := (cell_of_block (k := 7) HP.out rfl).1; have zP7 := (cell_of_block (k := 7) HP.out rfl).2; have qP8 := (cell_of_block (k := 8) HP.out rfl).1; have zP8 := (cell_of_block (k := 8) HP.out rfl).2; have lt_P := blk_lt HP.out
      have qR0 := (cell_of_block (k := 0) HR.out rfl).1; have zR0 := (cell_of_block (k := 0) HR.out rfl).2; have qR1 := (cell_of_block (k := 1) HR.out rfl).1; have zR1 := (cell_of_block (k := 1) HR.out rfl).2; have qR2 := (cell_of_block (k := 2) HR.out rfl).1; have zR2 := (cell_of_block (k := 2) HR.out rfl).2; have qR3 := (cell_of_block (k := 3) HR.out rfl).1; have zR3 := (cell_of_block (k := 3) HR.out rfl).2; have qR4 := (cell_of_block (k := 4) HR.out rfl).1; have zR4 := (cell_of_block (k := 4) HR.out rfl).2; have qR5 := (cell_of_block (k := 5) HR.out rfl).1; have zR5 := (cell_of_block (k := 5) HR.out rfl).2; have qR6 := (cell_of_block (k := 6) HR.out rfl).1; have zR6 := (cell_of_block (k := 6) HR.out rfl).2; have qR7 := (cell_of_block (k := 7) HR.out rfl).1; have zR7 := (cell_of_block (k := 7) HR.out rfl).2; have qR8 := (cell_of_block (k := 8) HR.out rfl).1; have zR8 := (cell_of_block (k := 8) HR.out rfl).2; have lt_R := blk_lt HR.out
      go_wp2_with fail
      have HZ := stN_all [.int .i64 (1 + (wh : Int) % 3), .int .i64 9, .int .i64 17, .int .i64 (1 + (od : Int) % 200), .int .i64 ((wh : Int) % 12), .bool false, .bool false, .int .i64 (8 * ((of : Int) % 6)), .string ⟨BL.toArray⟩] HR.out rfl
      refine bodyPost_ret (v := .agg #[.int .i64 (1 + (wh : Int) % 3), .int .i64 9, .int .i64 17, .int .i64 (1 + (od : Int) % 200), .int .i64 ((wh : Int) % 12), .bool false, .bool false, .int .i64 (8 * ((of : Int) % 6)), .string ⟨BL.toArray⟩]) (res_cell1 Try.results15 (by exact HZ) rfl Try.underlying30 rfl infoPkt) rfl ?_
      exact ⟨by unfold PkV; rw [HPB2.out], stN_below (by simp) [.int .i64 (1 + (wh : Int) % 3), .int .i64 9, .int .i64 17, .int .i64 (1 + (od : Int) % 200), .int .i64 ((wh : Int) % 12), .bool false, .bool false, .int .i64 (8 * ((of : Int) % 6)), .string ⟨BL.toArray⟩] _ 0 HB.out⟩
end Go.Proofs.Ytmeldgnjgogacaa.Re
