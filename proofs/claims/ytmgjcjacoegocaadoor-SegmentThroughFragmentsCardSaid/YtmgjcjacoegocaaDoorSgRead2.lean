/-
  The contract of segment.read.
-/
import Derived.Test.YtmgjcjacoegocaaDoorSgRead
import Derived.Deep.RegionLaw
import Derived.Deep.AppendLies
namespace Go.Proofs.YtmgjcjacoegocaaDoor.Sg
set_option maxRecDepth 100000
open Go.RowKit Go.Proofs.YtmgjcjacoegocaaDoor.Wire

/-- the blocks that stand in t -/
def blAt (t : ByteArray) (k : Nat) : List (Int × Int) := (List.range k).map fun i => (nA t (20 + 8 * i) 4, nA t (24 + 8 * i) 4)
theorem blAt_length (t : ByteArray) (k : Nat) : (blAt t k).length = k := by simp [blAt]
theorem blAt_succ (t : ByteArray) (k : Nat) : blAt t (k + 1) = blAt t k ++ [(nA t (20 + 8 * k) 4, nA t (24 + 8 * k) 4)] := by simp [blAt, List.range_succ]
def rdOk (t : ByteArray) (m : Nat) : Prop := m ≤ 3 ∧ 20 + 8 * m ≤ t.size
instance (t : ByteArray) (m : Nat) : Decidable (rdOk t m) := by unfold rdOk; infer_instance
def RdPost (t : ByteArray) (n0 n2 n4 n8 n14 n16 : Int) (m : Nat) (syn fin rst ha sacks : Bool) (w : World) (e : Ending) (w' : World) : Prop :=
  (rdOk t m ∧ ∃ (A : Option Addr) (cap : Nat), e = .returned (.tuple #[.agg #[.int .i64 n0, .int .i64 n2, .int .i64 n4, .int .i64 n8, .bool syn, .bool fin, .bool rst, .bool ha, .int .i64 n14, .int .i64 n16, .bool sacks, .slice A m cap, .string (t.extract (20 + 8 * m) t.size)], .bool true]) ∧ Bks w' A m (blAt t m) ∧ Below w.heap.size w w') ∨
  (¬ rdOk t m ∧ e = .returned (.tuple #[.agg #[.int .i64 0, .int .i64 0, .int .i64 0, .int .i64 0, .bool false, .bool false, .bool false, .bool false, .int .i64 0, .int .i64 0, .bool false, .slice none 0 0, .string ⟨#[]⟩], .bool false]) ∧ Below w.heap.size w w')
theorem infoSpan : (Tryd.prog.info? 73).map (fun i => (i.zero, i.size, i.bytes)) = some (some (.agg #[.int .i64 0, .int .i64 0]), 2, 16) := by kernel_rfl

set_option maxRecDepth 100000 in
set_option maxHeartbeats 4000000 in
theorem read_long (t : ByteArray) (n0 n2 n4 n8 n12 n14 n16 n18 : Int) (m : Nat) (syn fin rst ha sacks : Bool) (w : World) (h20 : 20 ≤ t.size) (ht : t.size ≤ 9223372036854775807)
    (hn0 : Hid (nA t 0 2 = n0)) (hn2 : Hid (nA t 2 2 = n2)) (hn4 : Hid (nA t 4 4 = n4)) (hn8 : Hid (nA t 8 4 = n8)) (hn12 : Hid (nA t 12 1 = n12)) (hn13 : Hid (nA t 13 1 = (m : Int))) (hn14 : Hid (nA t 14 2 = n14)) (hn16 : Hid (nA t 16 2 = n16)) (hn18 : Hid (nA t 18 2 = n18))
    (hm : m ≤ 255) (hsyn : (bits .and .i64 n12 1 != 0) = syn) (hfin : (bits .and .i64 n12 2 != 0) = fin) (hrst : (bits .and .i64 n12 4 != 0) = rst) (hha : (bits .and .i64 n12 8 != 0) = ha) (hsk : (bits .and .i64 n12 16 != 0) = sacks) :
    Calls Tryd.prog 38 #[.string t] w (RdPost t n0 n2 n4 n8 n14 n16 m syn fin rst ha sacks w) := by
  have hlt : decide ((t.size : Int) < 20) = false := by simp; omega
  have Ht := Lib.hid (block_alloc (block_alloc (alloc_new w (.cells #[.string t] 9)) (.cells #[.int .i64 0, .int .i64 0, .int .i64 0, .int .i64 0, .bool false, .bool false, .bool false, .bool false, .int .i64 0, .int .i64 0, .bool false, .slice none 0 0, .string ⟨#[]⟩] 24)) (.cells #[.int .i64 0] 3))
  have Hr := Lib.hid (block_alloc (alloc_new' (w.alloc (.cells #[.string t] 9)) (.cells #[.int .i64 0, .int .i64 0, .int .i64 0, .int .i64 0, .bool false, .bool false, .bool false, .bool false, .int .i64 0, .int .i64 0, .bool false, .slice none 0 0, .string ⟨#[]⟩] 24) (w.heap.size + 1) (by simp)) (.cells #[.int .i64 0] 3))
  have Hc := Lib.hid (alloc_new' ((w.alloc (.cells #[.string t] 9)).alloc (.cells #[.int .i64 0, .int .i64 0, .int .i64 0, .int .i64 0, .bool false, .bool false, .bool false, .bool false, .int .i64 0, .int .i64 0, .bool false, .slice none 0 0, .string ⟨#[]⟩] 24)) (.cells #[.int .i64 0] 3) (w.heap.size + 1 + 1) (by simp))
  have HB := below_alloc (o := .cells #[.int .i64 0] 3) (below_alloc (o := .cells #[.int .i64 0, .int .i64 0, .int .i64 0, .int .i64 0, .bool false, .bool false, .bool false, .bool false, .int .i64 0, .int .i64 0, .bool false, .slice none 0 0, .string ⟨#[]⟩] 24) (below_alloc (o := .cells #[.string t] 9) (Below.refl w.heap.size w)))
  have hz := HB.size
  go_enter Tryd.func38, Tryd.ntmps38
  go_wp2_with fail
  refine (get_c w.heap.size (w.heap.size + 1 + 1) t 0 2 2 n0 _ Ht.out Hc.out (by omega) (by omega) (by omega) (by omega) (by omega) ht hn0).mono ?_
  rintro e w1 ⟨rfl, hc, hg⟩
  have Ht' := Lib.hid (bblock_only hg Ht.out (by omega)); clear Ht; have Ht := Ht'; clear Ht'
  have Hr' := Lib.hid (bblock_only hg Hr.out (by omega)); clear Hr; have Hr := Hr'; clear Hr'
  clear Hc; have Hc := Lib.hid hc; clear hc
  have HB' := below_only HB hg (by omega); clear HB hg hz; have HB := HB'; clear HB'; have hz := HB.size
  go_wp2_with fail
  refine (get_c w.heap.size (w.heap.size + 1 + 1) t 2 4 2 n2 _ Ht.out Hc.out (by omega) (by omega) (by omega) (by omega) (by omega) ht hn2).mono ?_
  rintro e w2 ⟨rfl, hc, hg⟩
  have Ht' := Lib.hid (bblock_only hg Ht.out (by omega)); clear Ht; have Ht := Ht'; clear Ht'
  have Hr' := Lib.hid (bblock_only hg Hr.out (by omega)); clear Hr; have Hr := Hr'; clear Hr'
  clear Hc; have Hc := Lib.hid hc; clear hc
  have HB' := below_only HB hg (by omega); clear HB hg hz; have HB := HB'; clear HB'; have hz := HB.size
  go_wp2_with fail
  refine (get_c w.heap.size (w.heap.size + 1 + 1) t 4 8 4 n4 _ Ht.out Hc.out (by omega) (by omega) (by omega) (by omega) (by omega) ht hn4).mono ?_
  rintro e w3 ⟨rfl, hc, hg⟩
  have Ht' := Lib.hid (bblock_only hg Ht.out (by omega)); clear Ht; have Ht := Ht'; clear Ht'
  have Hr' := Lib.hid (bblock_only hg Hr.out (by omega)); clear Hr; have Hr := Hr'; clear Hr'
  clear Hc; have Hc := Lib.hid hc; clear hc
  have HB' := below_only HB hg (by omega); clear HB hg hz; have HB := HB'; clear HB'; have hz := HB.size
  go_wp2_with fail
  refine (get_c w.heap.size (w.heap.size + 1 + 1) t 8 12 4 n8 _ Ht.out Hc.out (by omega) (by omega) (by omega) (by omega) (by omega) ht hn8).mono ?_
  rintro e w4 ⟨rfl, hc, hg⟩
  have Ht' := Lib.hid (bblock_only hg Ht.out (by omega)); clear Ht; have Ht := Ht'; clear Ht'
  have Hr' := Lib.hid (bblock_only hg Hr.out (by omega)); clear Hr; have Hr := Hr'; clear Hr'
  clear Hc; have Hc := Lib.hid hc; clear hc
  have HB' := below_only HB hg (by omega); clear HB hg hz; have HB := HB'; clear HB'; have hz := HB.size
  have hz4 := blk_lt Hr.out; have hz5 := blk_lt Hc.out
  go_wp2_with fail
  have Hs := Lib.hid (alloc_new w4 (.cells #[.int .i64 n0, .int .i64 n2, .int .i64 n4, .int .i64 n8, .bool false, .bool false, .bool false, .bool false, .int .i64 0, .int .i64 0, .bool false, .slice none 0 0, .string ⟨#[]⟩] 24))
  have Ht' := Lib.hid (block_alloc Ht.out (.cells #[.int .i64 n0, .int .i64 n2, .int .i64 n4, .int .i64 n8, .bool false, .bool false, .bool false, .bool false, .int .i64 0, .int .i64 0, .bool false, .slice none 0 0, .string ⟨#[]⟩] 24)); clear Ht; have Ht := Ht'; clear Ht'
  have Hr' := Lib.hid (block_alloc Hr.out (.cells #[.int .i64 n0, .int .i64 n2, .int .i64 n4, .int .i64 n8, .bool false, .bool false, .bool false, .bool false, .int .i64 0, .int .i64 0, .bool false, .slice none 0 0, .string ⟨#[]⟩] 24)); clear Hr; have Hr := Hr'; clear Hr'
  have Hc' := Lib.hid (block_alloc Hc.out (.cells #[.int .i64 n0, .int .i64 n2, .int .i64 n4, .int .i64 n8, .bool false, .bool false, .bool false, .bool false, .int .i64 0, .int .i64 0, .bool false, .slice none 0 0, .string ⟨#[]⟩] 24)); clear Hc; have Hc := Hc'; clear Hc'
  have HB' := below_alloc (o := .cells #[.int .i64 n0, .int .i64 n2, .int .i64 n4, .int .i64 n8, .bool false, .bool false, .bool false, .bool false, .int .i64 0, .int .i64 0, .bool false, .slice none 0 0, .string ⟨#[]⟩] 24) HB; clear HB hz; have HB := HB'; clear HB'; have hz := HB.size
  refine (get_c w.heap.size (w.heap.size + 1 + 1) t 12 13 1 n12 _ Ht.out Hc.out (by omega) (by omega) (by omega) (by omega) (by omega) ht hn12).mono ?_
  rintro e w5 ⟨rfl, hc, hg⟩
  have Ht' := Lib.hid (bblock_only hg Ht.out (by omega)); clear Ht; have Ht := Ht'; clear Ht'
  have Hr' := Lib.hid (bblock_only hg Hr.out (by omega)); clear Hr; have Hr := Hr'; clear Hr'
  have Hs' := Lib.hid (bblock_only hg Hs.out (by omega)); clear Hs; have Hs := Hs'; clear Hs'
  clear Hc; have Hc := Lib.hid hc; clear hc
  have HB' := below_only HB hg (by omega); clear HB hg hz; have HB := HB'; clear HB'; have hz := HB.size
  go_wp2_with fail
  refine (get_c w.heap.size (w.heap.size + 1 + 1) t 13 14 1 (m : Int) _ Ht.out Hc.out (by omega) (by omega) (by omega) (by omega) (by omega) ht hn13).mono ?_
  rintro e w6 ⟨rfl, hc, hg⟩
  have Ht' := Lib.hid (bblock_only hg Ht.out (by omega)); clear Ht; have Ht := Ht'; clear Ht'
  have Hr' := Lib.hid (bblock_only hg Hr.out (by omega)); clear Hr; have Hr := Hr'; clear Hr'
  have Hs' := Lib.hid (bblock_only hg Hs.out (by omega)); clear Hs; have Hs := Hs'; clear Hs'
  clear Hc; have Hc := Lib.hid hc; clear hc
  have HB' := below_only HB hg (by omega); clear HB hg hz; have HB := HB'; clear HB'; have hz := HB.size
  have qs4 := (cell_of_block (k := 4) Hs.out rfl).1; have zs4 := (cell_of_block (k := 4) Hs.out rfl).2; have qs5 := (cell_of_block (k := 5) Hs.out rfl).1; have zs5 := (cell_of_block (k := 5) Hs.out rfl).2; have qs6 := (cell_of_block (k := 6) Hs.out rfl).1; have zs6 := (cell_of_block (k := 6) Hs.out rfl).2; have qs7 := (cell_of_block (k := 7) Hs.out rfl).1; have zs7 := (cell_of_block (k := 7) Hs.out rfl).2; have qs10 := (cell_of_block (k := 10) Hs.out rfl).1; have zs10 := (cell_of_block (k := 10) Hs.out rfl).2; have lt_s := blk_lt Hs.out
  go_wp2_with fail
  clear qs4 zs4 qs5 zs5 qs6 zs6 qs7 zs7 qs10 zs10 lt_s
  have Ht' := Lib.hid (block_set_other (a := ⟨w4.heap.size, 4, none⟩) (u := .bool syn) Ht.out (by simp; omega)); clear Ht; have Ht := Ht'; clear Ht'
  have Hr' := Lib.hid (block_set_other (a := ⟨w4.heap.size, 4, none⟩) (u := .bool syn) Hr.out (by simp; omega)); clear Hr; have Hr := Hr'; clear Hr'
  have Hc' := Lib.hid (block_set_other (a := ⟨w4.heap.size, 4, none⟩) (u := .bool syn) Hc.out (by simp; omega)); clear Hc; have Hc := Hc'; clear Hc'
  have Hs' := Lib.hid (cells_eq (b := #[.int .i64 n0, .int .i64 n2, .int .i64 n4, .int .i64 n8, .bool syn, .bool false, .bool false, .bool false, .int .i64 0, .int .i64 0, .bool false, .slice none 0 0, .string ⟨#[]⟩]) (block_setCell (k := 4) (v := .bool syn) Hs.out) rfl); clear Hs; have Hs := Hs'; clear Hs'
  have HB' := Below.setCell HB (p := ⟨w4.heap.size, 4, none⟩) (by simp; omega) (.bool syn); clear HB; have HB := HB'; clear HB'
  have Ht' := Lib.hid (block_set_other (a := ⟨w4.heap.size, 5, none⟩) (u := .bool fin) Ht.out (by simp; omega)); clear Ht; have Ht := Ht'; clear Ht'
  have Hr' := Lib.hid (block_set_other (a := ⟨w4.heap.size, 5, none⟩) (u := .bool fin) Hr.out (by simp; omega)); clear Hr; have Hr := Hr'; clear Hr'
  have Hc' := Lib.hid (block_set_other (a := ⟨w4.heap.size, 5, none⟩) (u := .bool fin) Hc.out (by simp; omega)); clear Hc; have Hc := Hc'; clear Hc'
  have Hs' := Lib.hid (cells_eq (b := #[.int .i64 n0, .int .i64 n2, .int .i64 n4, .int .i64 n8, .bool syn, .bool fin, .bool false, .bool false, .int .i64 0, .int .i64 0, .bool false, .slice none 0 0, .string ⟨#[]⟩]) (block_setCell (k := 5) (v := .bool fin) Hs.out) rfl); clear Hs; have Hs := Hs'; clear Hs'
  have HB' := Below.setCell HB (p := ⟨w4.heap.size, 5, none⟩) (by simp; omega) (.bool fin); clear HB; have HB := HB'; clear HB'
  have Ht' := Lib.hid (block_set_other (a := ⟨w4.heap.size, 6, none⟩) (u := .bool rst) Ht.out (by simp; omega)); clear Ht; have Ht := Ht'; clear Ht'
  have Hr' := Lib.hid (block_set_other (a := ⟨w4.heap.size, 6, none⟩) (u := .bool rst) Hr.out (by simp; omega)); clear Hr; have Hr := Hr'; clear Hr'
  have Hc' := Lib.hid (block_set_other (a := ⟨w4.heap.size, 6, none⟩) (u := .bool rst) Hc.out (by simp; omega)); clear Hc; have Hc := Hc'; clear Hc'
  have Hs' := Lib.hid (cells_eq (b := #[.int .i64 n0, .int .i64 n2, .int .i64 n4, .int .i64 n8, .bool syn, .bool fin, .bool rst, .bool false, .int .i64 0, .int .i64 0, .bool false, .slice none 0 0, .string ⟨#[]⟩]) (block_setCell (k := 6) (v := .bool rst) Hs.out) rfl); clear Hs; have Hs := Hs'; clear Hs'
  have HB' := Below.setCell HB (p := ⟨w4.heap.size, 6, none⟩) (by simp; omega) (.bool rst); clear HB; have HB := HB'; clear HB'
  have Ht' := Lib.hid (block_set_other (a := ⟨w4.heap.size, 7, none⟩) (u := .bool ha) Ht.out (by simp; omega)); clear Ht; have Ht := Ht'; clear Ht'
  have Hr' := Lib.hid (block_set_other (a := ⟨w4.heap.size, 7, none⟩) (u := .bool ha) Hr.out (by simp; omega)); clear Hr; have Hr := Hr'; clear Hr'
  have Hc' := Lib.hid (block_set_other (a := ⟨w4.heap.size, 7, none⟩) (u := .bool ha) Hc.out (by simp; omega)); clear Hc; have Hc := Hc'; clear Hc'
  have Hs' := Lib.hid (cells_eq (b := #[.int .i64 n0, .int .i64 n2, .int .i64 n4, .int .i64 n8, .bool syn, .bool fin, .bool rst, .bool ha, .int .i64 0, .int .i64 0, .bool false, .slice none 0 0, .string ⟨#[]⟩]) (block_setCell (k := 7) (v := .bool ha) Hs.out) rfl); clear Hs; have Hs := Hs'; clear Hs'
  have HB' := Below.setCell HB (p := ⟨w4.heap.size, 7, none⟩) (by simp; omega) (.bool ha); clear HB; have HB := HB'; clear HB'
  have Ht' := Lib.hid (block_set_other (a := ⟨w4.heap.size, 10, none⟩) (u := .bool sacks) Ht.out (by simp; omega)); clear Ht; have Ht := Ht'; clear Ht'
  have Hr' := Lib.hid (block_set_other (a := ⟨w4.heap.size, 10, none⟩) (u := .bool sacks) Hr.out (by simp; omega)); clear Hr; have Hr := Hr'; clear Hr'
  have Hc' := Lib.hid (block_set_other (a := ⟨w4.heap.size, 10, none⟩) (u := .bool sacks) Hc.out (by simp; omega)); clear Hc; have Hc := Hc'; clear Hc'
  have Hs' := Lib.hid (cells_eq (b := #[.int .i64 n0, .int .i64 n2, .int .i64 n4, .int .i64 n8, .bool syn, .bool fin, .bool rst, .bool ha, .int .i64 0, .int .i64 0, .bool sacks, .slice none 0 0, .string ⟨#[]⟩]) (block_setCell (k := 10) (v := .bool sacks) Hs.out) rfl); clear Hs; have Hs := Hs'; clear Hs'
  have HB' := Below.setCell HB (p := ⟨w4.heap.size, 10, none⟩) (by simp; omega) (.bool sacks); clear HB; have HB := HB'; clear HB'
  generalize (World.setCell (World.setCell (World.setCell (World.setCell (World.setCell w6 ⟨w4.heap.size, 4, none⟩ (.bool syn)) ⟨w4.heap.size, 5, none⟩ (.bool fin)) ⟨w4.heap.size, 6, none⟩ (.bool rst)) ⟨w4.heap.size, 7, none⟩ (.bool ha)) ⟨w4.heap.size, 10, none⟩ (.bool sacks)) = w6s at *
  have hz := HB.size
  refine (get_c w.heap.size (w.heap.size + 1 + 1) t 14 16 2 n14 _ Ht.out Hc.out (by omega) (by omega) (by omega) (by omega) (by omega) ht hn14).mono ?_
  rintro e w7 ⟨rfl, hc, hg⟩
  have Ht' := Lib.hid (bblock_only hg Ht.out (by omega)); clear Ht; have Ht := Ht'; clear Ht'
  have Hr' := Lib.hid (bblock_only hg Hr.out (by omega)); clear Hr; have Hr := Hr'; clear Hr'
  have Hs' := Lib.hid (bblock_only hg Hs.out (by omega)); clear Hs; have Hs := Hs'; clear Hs'
  clear Hc; have Hc := Lib.hid hc; clear hc
  have HB' := below_only HB hg (by omega); clear HB hg hz; have HB := HB'; clear HB'; have hz := HB.size
  go_wp2_with fail
  refine (get_c w.heap.size (w.heap.size + 1 + 1) t 16 18 2 n16 _ Ht.out Hc.out (by omega) (by omega) (by omega) (by omega) (by omega) ht hn16).mono ?_
  rintro e w8 ⟨rfl, hc, hg⟩
  have Ht' := Lib.hid (bblock_only hg Ht.out (by omega)); clear Ht; have Ht := Ht'; clear Ht'
  have Hr' := Lib.hid (bblock_only hg Hr.out (by omega)); clear Hr; have Hr := Hr'; clear Hr'
  have Hs' := Lib.hid (bblock_only hg Hs.out (by omega)); clear Hs; have Hs := Hs'; clear Hs'
  clear Hc; have Hc := Lib.hid hc; clear hc
  have HB' := below_only HB hg (by omega); clear HB hg hz; have HB := HB'; clear HB'; have hz := HB.size
  have qs8 := (cell_of_block (k := 8) Hs.out rfl).1; have zs8 := (cell_of_block (k := 8) Hs.out rfl).2; have qs9 := (cell_of_block (k := 9) Hs.out rfl).1; have zs9 := (cell_of_block (k := 9) Hs.out rfl).2; have lt_s := blk_lt Hs.out
  go_wp2_with fail
  clear qs8 zs8 qs9 zs9 lt_s
  have Ht' := Lib.hid (block_set_other (a := ⟨w4.heap.size, 8, none⟩) (u := .int .i64 n14) Ht.out (by simp; omega)); clear Ht; have Ht := Ht'; clear Ht'
  have Hr' := Lib.hid (block_set_other (a := ⟨w4.heap.size, 8, none⟩) (u := .int .i64 n14) Hr.out (by simp; omega)); clear Hr; have Hr := Hr'; clear Hr'
  have Hc' := Lib.hid (block_set_other (a := ⟨w4.heap.size, 8, none⟩) (u := .int .i64 n14) Hc.out (by simp; omega)); clear Hc; have Hc := Hc'; clear Hc'
  have Hs' := Lib.hid (cells_eq (b := #[.int .i64 n0, .int .i64 n2, .int .i64 n4, .int .i64 n8, .bool syn, .bool fin, .bool rst, .bool ha, .int .i64 n14, .int .i64 0, .bool sacks, .slice none 0 0, .string ⟨#[]⟩]) (block_setCell (k := 8) (v := .int .i64 n14) Hs.out) rfl); clear Hs; have Hs := Hs'; clear Hs'
  have HB' := Below.setCell HB (p := ⟨w4.heap.size, 8, none⟩) (by simp; omega) (.int .i64 n14); clear HB; have HB := HB'; clear HB'
  have Ht' := Lib.hid (block_set_other (a := ⟨w4.heap.size, 9, none⟩) (u := .int .i64 n16) Ht.out (by simp; omega)); clear Ht; have Ht := Ht'; clear Ht'
  have Hr' := Lib.hid (block_set_other (a := ⟨w4.heap.size, 9, none⟩) (u := .int .i64 n16) Hr.out (by simp; omega)); clear Hr; have Hr := Hr'; clear Hr'
  have Hc' := Lib.hid (block_set_other (a := ⟨w4.heap.size, 9, none⟩) (u := .int .i64 n16) Hc.out (by simp; omega)); clear Hc; have Hc := Hc'; clear Hc'
  have Hs' := Lib.hid (cells_eq (b := #[.int .i64 n0, .int .i64 n2, .int .i64 n4, .int .i64 n8, .bool syn, .bool fin, .bool rst, .bool ha, .int .i64 n14, .int .i64 n16, .bool sacks, .slice none 0 0, .string ⟨#[]⟩]) (block_setCell (k := 9) (v := .int .i64 n16) Hs.out) rfl); clear Hs; have Hs := Hs'; clear Hs'
  have HB' := Below.setCell HB (p := ⟨w4.heap.size, 9, none⟩) (by simp; omega) (.int .i64 n16); clear HB; have HB := HB'; clear HB'
  generalize (World.setCell (World.setCell w8 ⟨w4.heap.size, 8, none⟩ (.int .i64 n14)) ⟨w4.heap.size, 9, none⟩ (.int .i64 n16)) = w8s at *
  have hz := HB.size
  refine (get_c w.heap.size (w.heap.size + 1 + 1) t 18 20 2 n18 _ Ht.out Hc.out (by omega) (by omega) (by omega) (by omega) (by omega) ht hn18).mono ?_
  rintro e w9 ⟨rfl, hc, hg⟩
  have Ht' := Lib.hid (bblock_only hg Ht.out (by omega)); clear Ht; have Ht := Ht'; clear Ht'
  have Hr' := Lib.hid (bblock_only hg Hr.out (by omega)); clear Hr; have Hr := Hr'; clear Hr'
  have Hs' := Lib.hid (bblock_only hg Hs.out (by omega)); clear Hs; have Hs := Hs'; clear Hs'
  clear Hc; have Hc := Lib.hid hc; clear hc
  have HB' := below_only HB hg (by omega); clear HB hg hz; have HB := HB'; clear HB'; have hz := HB.size
  have qt0 := (cell_of_block (k := 0) Ht.out rfl).1; have zt0 := (cell_of_block (k := 0) Ht.out rfl).2; have lt_t := blk_lt Ht.out
  have qc0 := (cell_of_block (k := 0) Hc.out rfl).1; have zc0 := (cell_of_block (k := 0) Hc.out rfl).2; have lt_c := blk_lt Hc.out
  by_cases h3 : 3 < m
  · have hno : ¬ rdOk t m := fun q => by unfold rdOk at q; omega
    have hd3 : decide (3 < (m : Int)) = true := by simp; omega
    have qr0 := (cell_of_block (k := 0) Hr.out rfl).1; have zr0 := (cell_of_block (k := 0) Hr.out rfl).2; have qr1 := (cell_of_block (k := 1) Hr.out rfl).1; have zr1 := (cell_of_block (k := 1) Hr.out rfl).2; have qr2 := (cell_of_block (k := 2) Hr.out rfl).1; have zr2 := (cell_of_block (k := 2) Hr.out rfl).2; have qr3 := (cell_of_block (k := 3) Hr.out rfl).1; have zr3 := (cell_of_block (k := 3) Hr.out rfl).2; have qr4 := (cell_of_block (k := 4) Hr.out rfl).1; have zr4 := (cell_of_block (k := 4) Hr.out rfl).2; have qr5 := (cell_of_block (k := 5) Hr.out rfl).1; have zr5 := (cell_of_block (k := 5) Hr.out rfl).2; have qr6 := (cell_of_block (k := 6) Hr.out rfl).1; have zr6 := (cell_of_block (k := 6) Hr.out rfl).2; have qr7 := (cell_of_block (k := 7) Hr.out rfl).1; have zr7 := (cell_of_block (k := 7) Hr.out rfl).2; have qr8 := (cell_of_block (k := 8) Hr.out rfl).1; have zr8 := (cell_of_block (k := 8) Hr.out rfl).2; have qr9 := (cell_of_block (k := 9) Hr.out rfl).1; have zr9 := (cell_of_block (k := 9) Hr.out rfl).2; have qr10 := (cell_of_block (k := 10) Hr.out rfl).1; have zr10 := (cell_of_block (k := 10) Hr.out rfl).2; have qr11 := (cell_of_block (k := 11) Hr.out rfl).1; have zr11 := (cell_of_block (k := 11) Hr.out rfl).2; have qr12 := (cell_of_block (k := 12) Hr.out rfl).1; have zr12 := (cell_of_block (k := 12) Hr.out rfl).2; have lt_r := blk_lt Hr.out
    go_wp2_with fail
    have HZ := cells_eq (b := #[.int .i64 0, .int .i64 0, .int .i64 0, .int .i64 0, .bool false, .bool false, .bool false, .bool false, .int .i64 0, .int .i64 0, .bool false, .slice none 0 0, .string ⟨#[]⟩]) (block_setCell (k := 12) (v := .string ⟨#[]⟩) (block_setCell (k := 11) (v := .slice none 0 0) (block_setCell (k := 10) (v := .bool false) (block_setCell (k := 9) (v := .int .i64 0) (block_setCell (k := 8) (v := .int .i64 0) (block_setCell (k := 7) (v := .bool false) (block_setCell (k := 6) (v := .bool false) (block_setCell (k := 5) (v := .bool false) (block_setCell (k := 4) (v := .bool false) (block_setCell (k := 3) (v := .int .i64 0) (block_setCell (k := 2) (v := .int .i64 0) (block_setCell (k := 1) (v := .int .i64 0) (block_setCell (k := 0) (v := .int .i64 0) Hr.out))))))))))))) rfl
    refine bodyPost_ret (v := .tuple #[.agg #[.int .i64 0, .int .i64 0, .int .i64 0, .int .i64 0, .bool false, .bool false, .bool false, .bool false, .int .i64 0, .int .i64 0, .bool false, .slice none 0 0, .string ⟨#[]⟩], .bool false]) ?_ rfl (Or.inr ⟨hno, rfl, (Below.setCell (Below.setCell (Below.setCell (Below.setCell (Below.setCell (Below.setCell (Below.setCell (Below.setCell (Below.setCell (Below.setCell (Below.setCell (Below.setCell (Below.setCell HB (by simp) _) (by simp) _) (by simp) _) (by simp) _) (by simp) _) (by simp) _) (by simp) _) (by simp) _) (by simp) _) (by simp) _) (by simp) _) (by simp) _) (by simp) _)⟩)
    exact res_cell_tmp Tryd.results38 HZ rfl Tryd.underlying24 rfl (by kernel_rfl)
  have hd3 : decide (3 < (m : Int)) = false := by simp; omega
  by_cases h8 : t.size < 20 + 8 * m
  · have hno : ¬ rdOk t m := fun q => by unfold rdOk at q; omega
    have hd8 : decide ((t.size : Int) < 20 + 8 * (m : Int)) = true := by simp; omega
    have qr0 := (cell_of_block (k := 0) Hr.out rfl).1; have zr0 := (cell_of_block (k := 0) Hr.out rfl).2; have qr1 := (cell_of_block (k := 1) Hr.out rfl).1; have zr1 := (cell_of_block (k := 1) Hr.out rfl).2; have qr2 := (cell_of_block (k := 2) Hr.out rfl).1; have zr2 := (cell_of_block (k := 2) Hr.out rfl).2; have qr3 := (cell_of_block (k := 3) Hr.out rfl).1; have zr3 := (cell_of_block (k := 3) Hr.out rfl).2; have qr4 := (cell_of_block (k := 4) Hr.out rfl).1; have zr4 := (cell_of_block (k := 4) Hr.out rfl).2; have qr5 := (cell_of_block (k := 5) Hr.out rfl).1; have zr5 := (cell_of_block (k := 5) Hr.out rfl).2; have qr6 := (cell_of_block (k := 6) Hr.out rfl).1; have zr6 := (cell_of_block (k := 6) Hr.out rfl).2; have qr7 := (cell_of_block (k := 7) Hr.out rfl).1; have zr7 := (cell_of_block (k := 7) Hr.out rfl).2; have qr8 := (cell_of_block (k := 8) Hr.out rfl).1; have zr8 := (cell_of_block (k := 8) Hr.out rfl).2; have qr9 := (cell_of_block (k := 9) Hr.out rfl).1; have zr9 := (cell_of_block (k := 9) Hr.out rfl).2; have qr10 := (cell_of_block (k := 10) Hr.out rfl).1; have zr10 := (cell_of_block (k := 10) Hr.out rfl).2; have qr11 := (cell_of_block (k := 11) Hr.out rfl).1; have zr11 := (cell_of_block (k := 11) Hr.out rfl).2; have qr12 := (cell_of_block (k := 12) Hr.out rfl).1; have zr12 := (cell_of_block (k := 12) Hr.out rfl).2; have lt_r := blk_lt Hr.out
    go_wp2_with fail
    have HZ := cells_eq (b := #[.int .i64 0, .int .i64 0, .int .i64 0, .int .i64 0, .bool false, .bool false, .bool false, .bool false, .int .i64 0, .int .i64 0, .bool false, .slice none 0 0, .string ⟨#[]⟩]) (block_setCell (k := 12) (v := .string ⟨#[]⟩) (block_setCell (k := 11) (v := .slice none 0 0) (block_setCell (k := 10) (v := .bool false) (block_setCell (k := 9) (v := .int .i64 0) (block_setCell (k := 8) (v := .int .i64 0) (block_setCell (k := 7) (v := .bool false) (block_setCell (k := 6) (v := .bool false) (block_setCell (k := 5) (v := .bool false) (block_setCell (k := 4) (v := .bool false) (block_setCell (k := 3) (v := .int .i64 0) (block_setCell (k := 2) (v := .int .i64 0) (block_setCell (k := 1) (v := .int .i64 0) (block_setCell (k := 0) (v := .int .i64 0) Hr.out))))))))))))) rfl
    refine bodyPost_ret (v := .tuple #[.agg #[.int .i64 0, .int .i64 0, .int .i64 0, .int .i64 0, .bool false, .bool false, .bool false, .bool false, .int .i64 0, .int .i64 0, .bool false, .slice none 0 0, .string ⟨#[]⟩], .bool false]) ?_ rfl (Or.inr ⟨hno, rfl, (Below.setCell (Below.setCell (Below.setCell (Below.setCell (Below.setCell (Below.setCell (Below.setCell (Below.setCell (Below.setCell (Below.setCell (Below.setCell (Below.setCell (Below.setCell HB (by simp) _) (by simp) _) (by simp) _) (by simp) _) (by simp) _) (by simp) _) (by simp) _) (by simp) _) (by simp) _) (by simp) _) (by simp) _) (by simp) _) (by simp) _)⟩)
    exact res_cell_tmp Tryd.results38 HZ rfl Tryd.underlying24 rfl (by kernel_rfl)
  have hyes : rdOk t m := by unfold rdOk; omega
  have hd8 : decide ((t.size : Int) < 20 + 8 * (m : Int)) = false := by simp; omega
  have HY := Lib.hid hyes; clear hyes
  go_wp2_with fail
  clear qt0 zt0 lt_t
  clear qc0 zc0 lt_c
  clear hd3 hd8
  go_loopw [68] (fun i wr => ∃ (k : Nat) (v : Value), k ≤ m ∧ i = .int .i64 (k : Int) ∧ wr.heap[w.heap.size]? = some (.cells #[.string t] 9 (0, 0)) ∧ wr.heap[w.heap.size + 1]? = some (.cells #[.int .i64 0, .int .i64 0, .int .i64 0, .int .i64 0, .bool false, .bool false, .bool false, .bool false, .int .i64 0, .int .i64 0, .bool false, .slice none 0 0, .string ⟨#[]⟩] 24 (0, 0)) ∧ wr.heap[w.heap.size + 1 + 1]? = some (.cells #[.int .i64 (20 + 8 * (k : Int))] 3 (0, 0)) ∧ wr.heap[w4.heap.size]? = some (.cells #[.int .i64 n0, .int .i64 n2, .int .i64 n4, .int .i64 n8, .bool syn, .bool fin, .bool rst, .bool ha, .int .i64 n14, .int .i64 n16, .bool sacks, v, .string ⟨#[]⟩] 24 (0, 0)) ∧ wr.ownsRow w9.heap.size 73 2 v k (spCells (blAt t k)) ∧ Below w.heap.size w wr ∧ w9.heap.size ≤ wr.heap.size) (fun i _ => m - (intOf i).toNat)
  case atStart => exact ⟨0, .slice none 0 0, by omega, rfl, Ht.out, Hr.out, Hc.out, Hs.out, World.ownsRow_nil _ _ _ _, HB, Nat.le_refl _⟩
  case round =>
    have hs9 := blk_lt Hs.out; have hc9 := blk_lt Hc.out
    clear Ht Hr Hc Hs HB hz
    obtain ⟨k, v, hk, rfl, hT, hR, hC, hS, hrow, HB, hz9⟩ := hrel
    have Ht := Lib.hid hT; have Hr := Lib.hid hR; have Hc := Lib.hid hC; have Hs := Lib.hid hS; have Hrow := Lib.hid hrow; clear hT hR hC hS hrow; have hz := HB.size
    by_cases hlt : k < m
    · have hN1 : Hid (nA t (20 + 8 * (k : Int)).toNat (4 : Int).toNat = nA t (20 + 8 * k) 4) := Lib.hid (by rw [show (20 + 8 * (k : Int)).toNat = 20 + 8 * k from by omega]; rfl)
      have hN2 : Hid (nA t (20 + 8 * (k : Int) + 4).toNat (4 : Int).toNat = nA t (24 + 8 * k) 4) := Lib.hid (by rw [show (20 + 8 * (k : Int) + 4).toNat = 24 + 8 * k from by omega]; rfl)
      have HS := Lib.hid (blAt_succ t k)
      generalize nA t (20 + 8 * k) 4 = a at *
      generalize nA t (24 + 8 * k) 4 = b at *
      obtain ⟨i0, hi, hz0, hz1, hz2⟩ := info_parts infoSpan
      have hne : v.ownBlock ≠ some (w.heap.size + 1 + 1) := fun e => by have := (Hrow.out.lt _ e).1; omega
      have hne4 : v.ownBlock ≠ some w4.heap.size := fun e => by have := (Hrow.out.lt _ e).1; omega
      have qs11 := (cell_of_block (k := 11) Hs.out rfl).1; have zs11 := (cell_of_block (k := 11) Hs.out rfl).2; have lt_s := blk_lt Hs.out
      go_wp2_with fail
      go_region_law (first | ((go_simp; go_at_call 83; refine (get_c w.heap.size (w.heap.size + 1 + 1) t (20 + 8 * (k : Int) + 4) (20 + 8 * ((k + 1 : Nat) : Int)) 4 b _ (by exact ht1) (by exact hc1) (by omega) (by omega) (by omega) (by omega) (by omega) ht hN2).mono ?_; rintro e x2 ⟨rfl, hc2, hg2⟩; have ht2 := bblock_only hg2 ht1 (by omega); have hs2 := bblock_only hg2 hs1 (by omega); have hr2 := bblock_only hg2 hr1 (by omega); have hrow2 := hrow1.kept hg2 (.inr hne); have qs2 := (cell_of_block (k := 11) hs2 rfl).1; have hlt2 := blk_lt hs2; have hlw2 := blk_lt ht2; have hzz2 := hg2.size)) | ((go_simp; go_at_call 83; refine (get_c w.heap.size (w.heap.size + 1 + 1) t (20 + 8 * (k : Int)) (20 + 8 * (k : Int) + 4) 4 a _ (by exact Ht.out) (by exact Hc.out) (by omega) (by omega) (by omega) (by omega) (by omega) ht hN1).mono ?_; rintro e x1 ⟨rfl, hc1, hg1⟩; have ht1 := bblock_only hg1 (by exact Ht.out) (by omega); have hs1 := bblock_only hg1 (by exact Hs.out) (by omega); have hr1 := bblock_only hg1 (by exact Hr.out) (by omega); have hrow1 := World.ownsRow.kept (by exact Hrow.out) hg1 (.inr hne); have qs1 := (cell_of_block (k := 11) hs1 rfl).1; have hzz1 : wr.heap.size ≤ x1.heap.size := hg1.size)) | ((refine step_append_lies _ (by rfl) _ _ _ (by rfl) w9.heap.size 73 i0 (.agg #[.int .i64 0, .int .i64 0]) 2 16 Tryd.underlying22 hi hz0 hz1 hz2 rfl (by decide) v k _ (by rfl) (hrow2.alloc _) ⟨x2.heap.size, 0, none⟩ 1 1 [.int .i64 a, .int .i64 b] (by rfl) rfl (World.news_of_block (heap_alloc_new x2 _)) (by simp [Value.oneCell']) (by omega) (by unfold maxLen; omega) (by omega) (by simp; omega) (x2.heap.size + 1) (by simp) ?_; intro g cap x3 hown3 hgrow3 hat3 hlt3; have hs3 := (hgrow3.block w4.heap.size (blk_lt (block_alloc hs2 _)) (fun e => hne4 e.symm)).trans (block_alloc hs2 _); have qs3 := (cell_of_block (k := 11) hs3 rfl).1; have zs3 := (cell_of_block (k := 11) hs3 rfl).2)))
      all_goals
        have HBx := ((below_alloc (below_only (below_only HB.drew hg1 (by omega)) hg2 (by omega))).grown hgrow3 (by simp; omega) (fun j ej => by have := (hrow2.lt _ ej).1; omega)).setCell (p := ⟨w4.heap.size, 11, none⟩) (by simp; omega) (.slice (some ⟨g, 0, none⟩) (k + 1) cap)
        have hszx := hgrow3.size
        have hg9 := (hown3.lt g rfl).1
        have Htx := Lib.hid (block_set_other (a := ⟨w4.heap.size, 11, none⟩) (u := .slice (some ⟨g, 0, none⟩) (k + 1) cap) (keep_far hrow2 hgrow3 ht2 (by omega)) (by simp; omega))
        have Hrx := Lib.hid (block_set_other (a := ⟨w4.heap.size, 11, none⟩) (u := .slice (some ⟨g, 0, none⟩) (k + 1) cap) (keep_far hrow2 hgrow3 hr2 (by omega)) (by simp; omega))
        have Hcx := Lib.hid (block_set_other (a := ⟨w4.heap.size, 11, none⟩) (u := .slice (some ⟨g, 0, none⟩) (k + 1) cap) (keep_far hrow2 hgrow3 hc2 (by omega)) (by simp; omega))
        have Hsx := Lib.hid (cells_eq (b := #[.int .i64 n0, .int .i64 n2, .int .i64 n4, .int .i64 n8, .bool syn, .bool fin, .bool rst, .bool ha, .int .i64 n14, .int .i64 n16, .bool sacks, .slice (some ⟨g, 0, none⟩) (k + 1) cap, .string ⟨#[]⟩]) (block_setCell (k := 11) (v := .slice (some ⟨g, 0, none⟩) (k + 1) cap) hs3) rfl)
        have Hrx2 := Lib.hid (hown3.kept (only_set (p := ⟨w4.heap.size, 11, none⟩) (only_refl x3 w4.heap.size) (.inl rfl) (.slice (some ⟨g, 0, none⟩) (k + 1) cap)) (.inr (by simp [Value.ownBlock]; omega)))
        have hsz3 : w9.heap.size ≤ (World.setCell x3 ⟨w4.heap.size, 11, none⟩ (.slice (some ⟨g, 0, none⟩) (k + 1) cap)).heap.size := by simp [World.setCell] at hszx ⊢; omega
        clear hown3 hgrow3 hg1 hg2 ht1 ht2 hs1 hs2 hs3 hr1 hr2 hrow1 hrow2 hc1 hc2 qs1 qs2 qs3 zs3 Ht Hr Hc Hs Hrow HB qs11 zs11 hN1 hN2
        generalize World.setCell x3 ⟨w4.heap.size, 11, none⟩ (.slice (some ⟨g, 0, none⟩) (k + 1) cap) = x4 at *
        go_wp2_with fail
        go_roundw
        case rel => exact ⟨k + 1, .slice (some ⟨g, 0, none⟩) (k + 1) cap, by omega, by go_num, Htx.out, Hrx.out, Hcx.out, Hsx.out, by rw [HS.out, spCells_snoc]; exact Hrx2.out, HBx, by omega⟩
        case measure => simp [intOf]; omega
    · have hkm : k = m := by omega
      subst hkm
      obtain ⟨A, cap, rfl, hbk, hA⟩ := bks_own' (blAt_length t k) Hrow.out
      have hat : (20 + 8 * (k : Int)).toNat = 20 + 8 * k := by omega
      have ha1 : (0 : Int) ≤ 20 + 8 * (k : Int) := by omega
      have ha2 : 20 + 8 * (k : Int) ≤ (t.size : Int) := by omega
      have hbk := Lib.hid hbk; have hA := Lib.hid hA
      have qt0 := (cell_of_block (k := 0) Ht.out rfl).1; have zt0 := (cell_of_block (k := 0) Ht.out rfl).2; have lt_t := blk_lt Ht.out
      have qc0 := (cell_of_block (k := 0) Hc.out rfl).1; have zc0 := (cell_of_block (k := 0) Hc.out rfl).2; have lt_c := blk_lt Hc.out
      have qs0 := (cell_of_block (k := 0) Hs.out rfl).1; have zs0 := (cell_of_block (k := 0) Hs.out rfl).2; have qs1 := (cell_of_block (k := 1) Hs.out rfl).1; have zs1 := (cell_of_block (k := 1) Hs.out rfl).2; have qs2 := (cell_of_block (k := 2) Hs.out rfl).1; have zs2 := (cell_of_block (k := 2) Hs.out rfl).2; have qs3 := (cell_of_block (k := 3) Hs.out rfl).1; have zs3 := (cell_of_block (k := 3) Hs.out rfl).2; have qs4 := (cell_of_block (k := 4) Hs.out rfl).1; have zs4 := (cell_of_block (k := 4) Hs.out rfl).2; have qs5 := (cell_of_block (k := 5) Hs.out rfl).1; have zs5 := (cell_of_block (k := 5) Hs.out rfl).2; have qs6 := (cell_of_block (k := 6) Hs.out rfl).1; have zs6 := (cell_of_block (k := 6) Hs.out rfl).2; have qs7 := (cell_of_block (k := 7) Hs.out rfl).1; have zs7 := (cell_of_block (k := 7) Hs.out rfl).2; have qs8 := (cell_of_block (k := 8) Hs.out rfl).1; have zs8 := (cell_of_block (k := 8) Hs.out rfl).2; have qs9 := (cell_of_block (k := 9) Hs.out rfl).1; have zs9 := (cell_of_block (k := 9) Hs.out rfl).2; have qs10 := (cell_of_block (k := 10) Hs.out rfl).1; have zs10 := (cell_of_block (k := 10) Hs.out rfl).2; have qs11 := (cell_of_block (k := 11) Hs.out rfl).1; have zs11 := (cell_of_block (k := 11) Hs.out rfl).2; have qs12 := (cell_of_block (k := 12) Hs.out rfl).1; have zs12 := (cell_of_block (k := 12) Hs.out rfl).2; have lt_s := blk_lt Hs.out
      have qr0 := (cell_of_block (k := 0) Hr.out rfl).1; have zr0 := (cell_of_block (k := 0) Hr.out rfl).2; have qr1 := (cell_of_block (k := 1) Hr.out rfl).1; have zr1 := (cell_of_block (k := 1) Hr.out rfl).2; have qr2 := (cell_of_block (k := 2) Hr.out rfl).1; have zr2 := (cell_of_block (k := 2) Hr.out rfl).2; have qr3 := (cell_of_block (k := 3) Hr.out rfl).1; have zr3 := (cell_of_block (k := 3) Hr.out rfl).2; have qr4 := (cell_of_block (k := 4) Hr.out rfl).1; have zr4 := (cell_of_block (k := 4) Hr.out rfl).2; have qr5 := (cell_of_block (k := 5) Hr.out rfl).1; have zr5 := (cell_of_block (k := 5) Hr.out rfl).2; have qr6 := (cell_of_block (k := 6) Hr.out rfl).1; have zr6 := (cell_of_block (k := 6) Hr.out rfl).2; have qr7 := (cell_of_block (k := 7) Hr.out rfl).1; have zr7 := (cell_of_block (k := 7) Hr.out rfl).2; have qr8 := (cell_of_block (k := 8) Hr.out rfl).1; have zr8 := (cell_of_block (k := 8) Hr.out rfl).2; have qr9 := (cell_of_block (k := 9) Hr.out rfl).1; have zr9 := (cell_of_block (k := 9) Hr.out rfl).2; have qr10 := (cell_of_block (k := 10) Hr.out rfl).1; have zr10 := (cell_of_block (k := 10) Hr.out rfl).2; have qr11 := (cell_of_block (k := 11) Hr.out rfl).1; have zr11 := (cell_of_block (k := 11) Hr.out rfl).2; have qr12 := (cell_of_block (k := 12) Hr.out rfl).1; have zr12 := (cell_of_block (k := 12) Hr.out rfl).2; have lt_r := blk_lt Hr.out
      go_wp2_with fail
      have Hr2 := Lib.hid (block_set_other (a := ⟨w4.heap.size, 12, none⟩) (u := .string (t.extract (20 + 8 * k) t.size)) Hr.out (by simp; omega))
      have HBx := Below.setCell (p := ⟨w4.heap.size, 12, none⟩) HB (by simp; omega) (.string (t.extract (20 + 8 * k) t.size))
      have hbx := hbk.out.set hA.out (p := ⟨w4.heap.size, 12, none⟩) (by simp; omega) (.string (t.extract (20 + 8 * k) t.size))
      have hA := hA.out
      clear hbk Hr Hs Ht Hc
      replace HBx := Below.setCell (p := ⟨w.heap.size + 1, 0, none⟩) HBx (by simp) (.int .i64 n0); replace hbx := Bks.set hbx hA (p := ⟨w.heap.size + 1, 0, none⟩) (by simp; omega) (.int .i64 n0)
      have Hr3 := Lib.hid (cells_eq (b := #[.int .i64 n0, .int .i64 0, .int .i64 0, .int .i64 0, .bool false, .bool false, .bool false, .bool false, .int .i64 0, .int .i64 0, .bool false, .slice none 0 0, .string ⟨#[]⟩]) (block_setCell (k := 0) (v := .int .i64 n0) Hr2.out) rfl); clear Hr2; have Hr2 := Hr3; clear Hr3
      replace HBx := Below.setCell (p := ⟨w.heap.size + 1, 1, none⟩) HBx (by simp) (.int .i64 n2); replace hbx := Bks.set hbx hA (p := ⟨w.heap.size + 1, 1, none⟩) (by simp; omega) (.int .i64 n2)
      have Hr3 := Lib.hid (cells_eq (b := #[.int .i64 n0, .int .i64 n2, .int .i64 0, .int .i64 0, .bool false, .bool false, .bool false, .bool false, .int .i64 0, .int .i64 0, .bool false, .slice none 0 0, .string ⟨#[]⟩]) (block_setCell (k := 1) (v := .int .i64 n2) Hr2.out) rfl); clear Hr2; have Hr2 := Hr3; clear Hr3
      replace HBx := Below.setCell (p := ⟨w.heap.size + 1, 2, none⟩) HBx (by simp) (.int .i64 n4); replace hbx := Bks.set hbx hA (p := ⟨w.heap.size + 1, 2, none⟩) (by simp; omega) (.int .i64 n4)
      have Hr3 := Lib.hid (cells_eq (b := #[.int .i64 n0, .int .i64 n2, .int .i64 n4, .int .i64 0, .bool false, .bool false, .bool false, .bool false, .int .i64 0, .int .i64 0, .bool false, .slice none 0 0, .string ⟨#[]⟩]) (block_setCell (k := 2) (v := .int .i64 n4) Hr2.out) rfl); clear Hr2; have Hr2 := Hr3; clear Hr3
      replace HBx := Below.setCell (p := ⟨w.heap.size + 1, 3, none⟩) HBx (by simp) (.int .i64 n8); replace hbx := Bks.set hbx hA (p := ⟨w.heap.size + 1, 3, none⟩) (by simp; omega) (.int .i64 n8)
      have Hr3 := Lib.hid (cells_eq (b := #[.int .i64 n0, .int .i64 n2, .int .i64 n4, .int .i64 n8, .bool false, .bool false, .bool false, .bool false, .int .i64 0, .int .i64 0, .bool false, .slice none 0 0, .string ⟨#[]⟩]) (block_setCell (k := 3) (v := .int .i64 n8) Hr2.out) rfl); clear Hr2; have Hr2 := Hr3; clear Hr3
      replace HBx := Below.setCell (p := ⟨w.heap.size + 1, 4, none⟩) HBx (by simp) (.bool syn); replace hbx := Bks.set hbx hA (p := ⟨w.heap.size + 1, 4, none⟩) (by simp; omega) (.bool syn)
      have Hr3 := Lib.hid (cells_eq (b := #[.int .i64 n0, .int .i64 n2, .int .i64 n4, .int .i64 n8, .bool syn, .bool false, .bool false, .bool false, .int .i64 0, .int .i64 0, .bool false, .slice none 0 0, .string ⟨#[]⟩]) (block_setCell (k := 4) (v := .bool syn) Hr2.out) rfl); clear Hr2; have Hr2 := Hr3; clear Hr3
      replace HBx := Below.setCell (p := ⟨w.heap.size + 1, 5, none⟩) HBx (by simp) (.bool fin); replace hbx := Bks.set hbx hA (p := ⟨w.heap.size + 1, 5, none⟩) (by simp; omega) (.bool fin)
      have Hr3 := Lib.hid (cells_eq (b := #[.int .i64 n0, .int .i64 n2, .int .i64 n4, .int .i64 n8, .bool syn, .bool fin, .bool false, .bool false, .int .i64 0, .int .i64 0, .bool false, .slice none 0 0, .string ⟨#[]⟩]) (block_setCell (k := 5) (v := .bool fin) Hr2.out) rfl); clear Hr2; have Hr2 := Hr3; clear Hr3
      replace HBx := Below.setCell (p := ⟨w.heap.size + 1, 6, none⟩) HBx (by simp) (.bool rst); replace hbx := Bks.set hbx hA (p := ⟨w.heap.size + 1, 6, none⟩) (by simp; omega) (.bool rst)
      have Hr3 := Lib.hid (cells_eq (b := #[.int .i64 n0, .int .i64 n2, .int .i64 n4, .int .i64 n8, .bool syn, .bool fin, .bool rst, .bool false, .int .i64 0, .int .i64 0, .bool false, .slice none 0 0, .string ⟨#[]⟩]) (block_setCell (k := 6) (v := .bool rst) Hr2.out) rfl); clear Hr2; have Hr2 := Hr3; clear Hr3
      replace HBx := Below.setCell (p := ⟨w.heap.size + 1, 7, none⟩) HBx (by simp) (.bool ha); replace hbx := Bks.set hbx hA (p := ⟨w.heap.size + 1, 7, none⟩) (by simp; omega) (.bool ha)
      have Hr3 := Lib.hid (cells_eq (b := #[.int .i64 n0, .int .i64 n2, .int .i64 n4, .int .i64 n8, .bool syn, .bool fin, .bool rst, .bool ha, .int .i64 0, .int .i64 0, .bool false, .slice none 0 0, .string ⟨#[]⟩]) (block_setCell (k := 7) (v := .bool ha) Hr2.out) rfl); clear Hr2; have Hr2 := Hr3; clear Hr3
      replace HBx := Below.setCell (p := ⟨w.heap.size + 1, 8, none⟩) HBx (by simp) (.int .i64 n14); replace hbx := Bks.set hbx hA (p := ⟨w.heap.size + 1, 8, none⟩) (by simp; omega) (.int .i64 n14)
      have Hr3 := Lib.hid (cells_eq (b := #[.int .i64 n0, .int .i64 n2, .int .i64 n4, .int .i64 n8, .bool syn, .bool fin, .bool rst, .bool ha, .int .i64 n14, .int .i64 0, .bool false, .slice none 0 0, .string ⟨#[]⟩]) (block_setCell (k := 8) (v := .int .i64 n14) Hr2.out) rfl); clear Hr2; have Hr2 := Hr3; clear Hr3
      replace HBx := Below.setCell (p := ⟨w.heap.size + 1, 9, none⟩) HBx (by simp) (.int .i64 n16); replace hbx := Bks.set hbx hA (p := ⟨w.heap.size + 1, 9, none⟩) (by simp; omega) (.int .i64 n16)
      have Hr3 := Lib.hid (cells_eq (b := #[.int .i64 n0, .int .i64 n2, .int .i64 n4, .int .i64 n8, .bool syn, .bool fin, .bool rst, .bool ha, .int .i64 n14, .int .i64 n16, .bool false, .slice none 0 0, .string ⟨#[]⟩]) (block_setCell (k := 9) (v := .int .i64 n16) Hr2.out) rfl); clear Hr2; have Hr2 := Hr3; clear Hr3
      replace HBx := Below.setCell (p := ⟨w.heap.size + 1, 10, none⟩) HBx (by simp) (.bool sacks); replace hbx := Bks.set hbx hA (p := ⟨w.heap.size + 1, 10, none⟩) (by simp; omega) (.bool sacks)
      have Hr3 := Lib.hid (cells_eq (b := #[.int .i64 n0, .int .i64 n2, .int .i64 n4, .int .i64 n8, .bool syn, .bool fin, .bool rst, .bool ha, .int .i64 n14, .int .i64 n16, .bool sacks, .slice none 0 0, .string ⟨#[]⟩]) (block_setCell (k := 10) (v := .bool sacks) Hr2.out) rfl); clear Hr2; have Hr2 := Hr3; clear Hr3
      replace HBx := Below.setCell (p := ⟨w.heap.size + 1, 11, none⟩) HBx (by simp) (.slice A k cap); replace hbx := Bks.set hbx hA (p := ⟨w.heap.size + 1, 11, none⟩) (by simp; omega) (.slice A k cap)
      have Hr3 := Lib.hid (cells_eq (b := #[.int .i64 n0, .int .i64 n2, .int .i64 n4, .int .i64 n8, .bool syn, .bool fin, .bool rst, .bool ha, .int .i64 n14, .int .i64 n16, .bool sacks, .slice A k cap, .string ⟨#[]⟩]) (block_setCell (k := 11) (v := .slice A k cap) Hr2.out) rfl); clear Hr2; have Hr2 := Hr3; clear Hr3
      replace HBx := Below.setCell (p := ⟨w.heap.size + 1, 12, none⟩) HBx (by simp) (.string (t.extract (20 + 8 * k) t.size)); replace hbx := Bks.set hbx hA (p := ⟨w.heap.size + 1, 12, none⟩) (by simp; omega) (.string (t.extract (20 + 8 * k) t.size))
      have Hr3 := Lib.hid (cells_eq (b := #[.int .i64 n0, .int .i64 n2, .int .i64 n4, .int .i64 n8, .bool syn, .bool fin, .bool rst, .bool ha, .int .i64 n14, .int .i64 n16, .bool sacks, .slice A k cap, .string (t.extract (20 + 8 * k) t.size)]) (block_setCell (k := 12) (v := .string (t.extract (20 + 8 * k) t.size)) Hr2.out) rfl); clear Hr2; have Hr2 := Hr3; clear Hr3
      generalize (World.setCell (World.setCell (World.setCell (World.setCell (World.setCell (World.setCell (World.setCell (World.setCell (World.setCell (World.setCell (World.setCell (World.setCell (World.setCell (World.setCell wr ⟨w4.heap.size, 12, none⟩ (.string (t.extract (20 + 8 * k) t.size))) ⟨w.heap.size + 1, 0, none⟩ (.int .i64 n0)) ⟨w.heap.size + 1, 1, none⟩ (.int .i64 n2)) ⟨w.heap.size + 1, 2, none⟩ (.int .i64 n4)) ⟨w.heap.size + 1, 3, none⟩ (.int .i64 n8)) ⟨w.heap.size + 1, 4, none⟩ (.bool syn)) ⟨w.heap.size + 1, 5, none⟩ (.bool fin)) ⟨w.heap.size + 1, 6, none⟩ (.bool rst)) ⟨w.heap.size + 1, 7, none⟩ (.bool ha)) ⟨w.heap.size + 1, 8, none⟩ (.int .i64 n14)) ⟨w.heap.size + 1, 9, none⟩ (.int .i64 n16)) ⟨w.heap.size + 1, 10, none⟩ (.bool sacks)) ⟨w.heap.size + 1, 11, none⟩ (.slice A k cap)) ⟨w.heap.size + 1, 12, none⟩ (.string (t.extract (20 + 8 * k) t.size))) = wf at *
      refine bodyPost_ret (v := .tuple #[.agg #[.int .i64 n0, .int .i64 n2, .int .i64 n4, .int .i64 n8, .bool syn, .bool fin, .bool rst, .bool ha, .int .i64 n14, .int .i64 n16, .bool sacks, .slice A k cap, .string (t.extract (20 + 8 * k) t.size)], .bool true]) ?_ rfl (Or.inl ⟨HY.out, A, cap, rfl, hbx, HBx⟩)
      exact res_cell_tmp Tryd.results38 Hr2.out rfl Tryd.underlying24 rfl (by kernel_rfl)
end Go.Proofs.YtmgjcjacoegocaaDoor.Sg
