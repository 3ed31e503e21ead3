/-
  The contract of cut of the laws of chapter 11.
-/
import Derived.Test.YtmgjcjacoegocaaDoorSgLaw
import Derived.Test.YtmgjcjacoegocaaDoorSgRead2
import Derived.Test.YtmgjcjacoegocaaDoorSgDec
namespace Go.Proofs.YtmgjcjacoegocaaDoor.Sg
set_option maxRecDepth 100000
open Go.RowKit Go.Proofs.YtmgjcjacoegocaaDoor.Wire

/-- what cut returns -/
def CutPost (fp tp sq ack : Int) (syn fin rst ha : Bool) (win mss : Int) (sacks : Bool) (bl : List (Int × Int)) (s : ByteArray) (m k : Nat) (w : World) (e : Ending) (w' : World) : Prop :=
  ∃ (A : Option Addr) (c : Nat), e = .returned (.agg #[.int .i64 fp, .int .i64 tp, .int .i64 sq, .int .i64 ack, .bool syn, .bool fin, .bool rst, .bool ha, .int .i64 win, .int .i64 mss, .bool sacks, .slice A m c, .string (s.extract 0 k)]) ∧ Bks w' A m (bl.take m) ∧ Below w.heap.size w w'
theorem spCells_take (l : List (Int × Int)) (m : Nat) (j : Nat) (u : Value) (h : (spCells (l.take m))[j]? = some u) : (spCells l)[j]? = some u := by
  have e : spCells l = spCells (l.take m) ++ spCells (l.drop m) := by
    unfold spCells; rw [← List.flatMap_append, List.take_append_drop]
  have hj : j < (spCells (l.take m)).length := by
    rcases Nat.lt_or_ge j (spCells (l.take m)).length with q | q
    · exact q
    · rw [List.getElem?_eq_none q] at h; cases h
  rw [e, List.getElem?_append_left hj]
  exact h
theorem spCells_one (l : List (Int × Int)) : ∀ u ∈ spCells l, u.oneCell' = true := by
  intro u hu
  simp only [spCells, List.mem_flatMap] at hu
  obtain ⟨x, -, hx⟩ := hu
  simp at hx
  rcases hx with rfl | rfl <;> rfl

set_option maxRecDepth 100000 in
set_option maxHeartbeats 4000000 in
theorem cut_some (fp tp sq ack : Int) (syn fin rst ha : Bool) (win mss : Int) (sacks : Bool) (a : Addr) (n c : Nat) (bl : List (Int × Int)) (s : ByteArray) (m k : Nat) (w : World) (hm : min (n : Int) 6 = (m : Int)) (hk : min (s.size : Int) 1100 = (k : Int)) (hmn : m ≤ n) (hm6 : m ≤ 6) (hnc : n ≤ c) (hks : k ≤ s.size)
    (hl : bl.length = n) (hr : ∀ j u, (spCells bl)[j]? = some u → w.cell? (a.add j) = some u) :
    Calls Tryd.prog 8 #[.agg #[.int .i64 fp, .int .i64 tp, .int .i64 sq, .int .i64 ack, .bool syn, .bool fin, .bool rst, .bool ha, .int .i64 win, .int .i64 mss, .bool sacks, .slice (some a) n c, .string s]] w (CutPost fp tp sq ack syn fin rst ha win mss sacks bl s m k w) := by
  have HR := Lib.hid hr; clear hr
  have HL := Lib.hid hl; clear hl
  have mi1 : (m : Int) ≤ (c : Int) := by omega
  have mi2 : (0 : Int) ≤ (m : Int) := by omega
  have ki1 : (k : Int) ≤ (s.size : Int) := by omega
  have ki2 : (0 : Int) ≤ (k : Int) := by omega
  obtain ⟨i0, hi, hz0, hz1, hz2⟩ := info_parts infoSpan
  go_enter Tryd.func8, Tryd.ntmps8
  -- WALK
  have Hx := Lib.hid (block_alloc (alloc_new w (.cells #[.int .i64 fp, .int .i64 tp, .int .i64 sq, .int .i64 ack, .bool syn, .bool fin, .bool rst, .bool ha, .int .i64 win, .int .i64 mss, .bool sacks, .slice (some a) n c, .string (s.extract 0 k)] 24)) (.cells #[.int .i64 0, .int .i64 0, .int .i64 0, .int .i64 0, .bool false, .bool false, .bool false, .bool false, .int .i64 0, .int .i64 0, .bool false, .slice none 0 0, .string ⟨#[]⟩] 24))
  have Hr := Lib.hid (alloc_new' (w.alloc (.cells #[.int .i64 fp, .int .i64 tp, .int .i64 sq, .int .i64 ack, .bool syn, .bool fin, .bool rst, .bool ha, .int .i64 win, .int .i64 mss, .bool sacks, .slice (some a) n c, .string (s.extract 0 k)] 24)) (.cells #[.int .i64 0, .int .i64 0, .int .i64 0, .int .i64 0, .bool false, .bool false, .bool false, .bool false, .int .i64 0, .int .i64 0, .bool false, .slice none 0 0, .string ⟨#[]⟩] 24) (w.heap.size + 1) (by simp))
  have HB := below_alloc (o := .cells #[.int .i64 0, .int .i64 0, .int .i64 0, .int .i64 0, .bool false, .bool false, .bool false, .bool false, .int .i64 0, .int .i64 0, .bool false, .slice none 0 0, .string ⟨#[]⟩] 24) (below_alloc (o := .cells #[.int .i64 fp, .int .i64 tp, .int .i64 sq, .int .i64 ack, .bool syn, .bool fin, .bool rst, .bool ha, .int .i64 win, .int .i64 mss, .bool sacks, .slice (some a) n c, .string (s.extract 0 k)] 24) (Below.refl w.heap.size w))
  have HN : Hid (∀ j u, (spCells (bl.take m))[j]? = some u → ((w.alloc (.cells #[.int .i64 fp, .int .i64 tp, .int .i64 sq, .int .i64 ack, .bool syn, .bool fin, .bool rst, .bool ha, .int .i64 win, .int .i64 mss, .bool sacks, .slice (some a) n c, .string (s.extract 0 k)] 24)).alloc (.cells #[.int .i64 0, .int .i64 0, .int .i64 0, .int .i64 0, .bool false, .bool false, .bool false, .bool false, .int .i64 0, .int .i64 0, .bool false, .slice none 0 0, .string ⟨#[]⟩] 24)).cell? (a.add j) = some u) := Lib.hid fun j u hj => by
    exact cell_alloc' _ (cell_alloc' _ (HR.out j u (spCells_take bl m j u hj)))
  have HLm : Hid ((bl.take m).length = m) := Lib.hid (by rw [List.length_take]; have := HL.out; omega)
  clear HR HL
  go_wp2_with (at_builtin; refine wpList_append_own _ rfl _ _ 22 rfl w.heap.size 73 i0 (.agg #[.int .i64 0, .int .i64 0]) 2 16 Tryd.underlying22 hi hz0 hz1 hz2 rfl (by decide) (.slice none 0 0) 0 [] rfl (World.ownsRow_nil _ _ _ _) a m c (spCells (bl.take m)) rfl (by rw [spCells_length, HLm.out]) HN.out (spCells_one _) (by unfold maxLen; omega) (by omega) (by simp; omega) ?_; intro v' w1 hown' hgrow _; have Hx1 := Lib.hid ((hgrow.block _ (blk_lt Hx.out) (by simp [Value.ownBlock])).trans Hx.out); have Hr1 := Lib.hid ((hgrow.block _ (blk_lt Hr.out) (by simp [Value.ownBlock])).trans Hr.out); have HB1 := HB.grown hgrow (by have := HB.size; exact this) (by simp [Value.ownBlock]); clear Hx Hr HB HN hgrow; simp only [Nat.zero_add, List.nil_append] at hown'; obtain ⟨A, cap, rfl, hbk, hA⟩ := bks_own' HLm.out hown'; clear hown' hA; have Hbk := Lib.hid hbk; clear hbk; have qx0 := (cell_of_block (k := 0) Hx1.out rfl).1; have zx0 := (cell_of_block (k := 0) Hx1.out rfl).2; have qr0 := (cell_of_block (k := 0) Hr1.out rfl).1; have zr0 := (cell_of_block (k := 0) Hr1.out rfl).2; have qx1 := (cell_of_block (k := 1) Hx1.out rfl).1; have zx1 := (cell_of_block (k := 1) Hx1.out rfl).2; have qr1 := (cell_of_block (k := 1) Hr1.out rfl).1; have zr1 := (cell_of_block (k := 1) Hr1.out rfl).2; have qx2 := (cell_of_block (k := 2) Hx1.out rfl).1; have zx2 := (cell_of_block (k := 2) Hx1.out rfl).2; have qr2 := (cell_of_block (k := 2) Hr1.out rfl).1; have zr2 := (cell_of_block (k := 2) Hr1.out rfl).2; have qx3 := (cell_of_block (k := 3) Hx1.out rfl).1; have zx3 := (cell_of_block (k := 3) Hx1.out rfl).2; have qr3 := (cell_of_block (k := 3) Hr1.out rfl).1; have zr3 := (cell_of_block (k := 3) Hr1.out rfl).2; have qx4 := (cell_of_block (k := 4) Hx1.out rfl).1; have zx4 := (cell_of_block (k := 4) Hx1.out rfl).2; have qr4 := (cell_of_block (k := 4) Hr1.out rfl).1; have zr4 := (cell_of_block (k := 4) Hr1.out rfl).2; have qx5 := (cell_of_block (k := 5) Hx1.out rfl).1; have zx5 := (cell_of_block (k := 5) Hx1.out rfl).2; have qr5 := (cell_of_block (k := 5) Hr1.out rfl).1; have zr5 := (cell_of_block (k := 5) Hr1.out rfl).2; have qx6 := (cell_of_block (k := 6) Hx1.out rfl).1; have zx6 := (cell_of_block (k := 6) Hx1.out rfl).2; have qr6 := (cell_of_block (k := 6) Hr1.out rfl).1; have zr6 := (cell_of_block (k := 6) Hr1.out rfl).2; have qx7 := (cell_of_block (k := 7) Hx1.out rfl).1; have zx7 := (cell_of_block (k := 7) Hx1.out rfl).2; have qr7 := (cell_of_block (k := 7) Hr1.out rfl).1; have zr7 := (cell_of_block (k := 7) Hr1.out rfl).2; have qx8 := (cell_of_block (k := 8) Hx1.out rfl).1; have zx8 := (cell_of_block (k := 8) Hx1.out rfl).2; have qr8 := (cell_of_block (k := 8) Hr1.out rfl).1; have zr8 := (cell_of_block (k := 8) Hr1.out rfl).2; have qx9 := (cell_of_block (k := 9) Hx1.out rfl).1; have zx9 := (cell_of_block (k := 9) Hx1.out rfl).2; have qr9 := (cell_of_block (k := 9) Hr1.out rfl).1; have zr9 := (cell_of_block (k := 9) Hr1.out rfl).2; have qx10 := (cell_of_block (k := 10) Hx1.out rfl).1; have zx10 := (cell_of_block (k := 10) Hx1.out rfl).2; have qr10 := (cell_of_block (k := 10) Hr1.out rfl).1; have zr10 := (cell_of_block (k := 10) Hr1.out rfl).2; have qx11 := (cell_of_block (k := 11) Hx1.out rfl).1; have zx11 := (cell_of_block (k := 11) Hx1.out rfl).2; have qr11 := (cell_of_block (k := 11) Hr1.out rfl).1; have zr11 := (cell_of_block (k := 11) Hr1.out rfl).2; have qx12 := (cell_of_block (k := 12) Hx1.out rfl).1; have zx12 := (cell_of_block (k := 12) Hx1.out rfl).2; have qr12 := (cell_of_block (k := 12) Hr1.out rfl).1; have zr12 := (cell_of_block (k := 12) Hr1.out rfl).2)
  have hbx := Bks.setT Hbk.out (p := ⟨w.heap.size, 11, none⟩) Hx1.out (by decide) (.slice A m cap)
  have Hr2 := Lib.hid (block_set_other (a := ⟨w.heap.size, 11, none⟩) (u := .slice A m cap) Hr1.out (by simp))
  have HBx := Below.setCell (p := ⟨w.heap.size, 11, none⟩) HB1 (by simp) (.slice A m cap)
  replace HBx := Below.setCell (p := ⟨w.heap.size + 1, 0, none⟩) HBx (by simp) (.int .i64 fp); replace hbx := Bks.setT hbx (p := ⟨w.heap.size + 1, 0, none⟩) Hr2.out (by decide) (.int .i64 fp)
  have Hr3 := Lib.hid (cells_eq (b := #[.int .i64 fp, .int .i64 0, .int .i64 0, .int .i64 0, .bool false, .bool false, .bool false, .bool false, .int .i64 0, .int .i64 0, .bool false, .slice none 0 0, .string ⟨#[]⟩]) (block_setCell (k := 0) (v := .int .i64 fp) Hr2.out) rfl); clear Hr2; have Hr2 := Hr3; clear Hr3
  replace HBx := Below.setCell (p := ⟨w.heap.size + 1, 1, none⟩) HBx (by simp) (.int .i64 tp); replace hbx := Bks.setT hbx (p := ⟨w.heap.size + 1, 1, none⟩) Hr2.out (by decide) (.int .i64 tp)
  have Hr3 := Lib.hid (cells_eq (b := #[.int .i64 fp, .int .i64 tp, .int .i64 0, .int .i64 0, .bool false, .bool false, .bool false, .bool false, .int .i64 0, .int .i64 0, .bool false, .slice none 0 0, .string ⟨#[]⟩]) (block_setCell (k := 1) (v := .int .i64 tp) Hr2.out) rfl); clear Hr2; have Hr2 := Hr3; clear Hr3
  replace HBx := Below.setCell (p := ⟨w.heap.size + 1, 2, none⟩) HBx (by simp) (.int .i64 sq); replace hbx := Bks.setT hbx (p := ⟨w.heap.size + 1, 2, none⟩) Hr2.out (by decide) (.int .i64 sq)
  have Hr3 := Lib.hid (cells_eq (b := #[.int .i64 fp, .int .i64 tp, .int .i64 sq, .int .i64 0, .bool false, .bool false, .bool false, .bool false, .int .i64 0, .int .i64 0, .bool false, .slice none 0 0, .string ⟨#[]⟩]) (block_setCell (k := 2) (v := .int .i64 sq) Hr2.out) rfl); clear Hr2; have Hr2 := Hr3; clear Hr3
  replace HBx := Below.setCell (p := ⟨w.heap.size + 1, 3, none⟩) HBx (by simp) (.int .i64 ack); replace hbx := Bks.setT hbx (p := ⟨w.heap.size + 1, 3, none⟩) Hr2.out (by decide) (.int .i64 ack)
  have Hr3 := Lib.hid (cells_eq (b := #[.int .i64 fp, .int .i64 tp, .int .i64 sq, .int .i64 ack, .bool false, .bool false, .bool false, .bool false, .int .i64 0, .int .i64 0, .bool false, .slice none 0 0, .string ⟨#[]⟩]) (block_setCell (k := 3) (v := .int .i64 ack) Hr2.out) rfl); clear Hr2; have Hr2 := Hr3; clear Hr3
  replace HBx := Below.setCell (p := ⟨w.heap.size + 1, 4, none⟩) HBx (by simp) (.bool syn); replace hbx := Bks.setT hbx (p := ⟨w.heap.size + 1, 4, none⟩) Hr2.out (by decide) (.bool syn)
  have Hr3 := Lib.hid (cells_eq (b := #[.int .i64 fp, .int .i64 tp, .int .i64 sq, .int .i64 ack, .bool syn, .bool false, .bool false, .bool false, .int .i64 0, .int .i64 0, .bool false, .slice none 0 0, .string ⟨#[]⟩]) (block_setCell (k := 4) (v := .bool syn) Hr2.out) rfl); clear Hr2; have Hr2 := Hr3; clear Hr3
  replace HBx := Below.setCell (p := ⟨w.heap.size + 1, 5, none⟩) HBx (by simp) (.bool fin); replace hbx := Bks.setT hbx (p := ⟨w.heap.size + 1, 5, none⟩) Hr2.out (by decide) (.bool fin)
  have Hr3 := Lib.hid (cells_eq (b := #[.int .i64 fp, .int .i64 tp, .int .i64 sq, .int .i64 ack, .bool syn, .bool fin, .bool false, .bool false, .int .i64 0, .int .i64 0, .bool false, .slice none 0 0, .string ⟨#[]⟩]) (block_setCell (k := 5) (v := .bool fin) Hr2.out) rfl); clear Hr2; have Hr2 := Hr3; clear Hr3
  replace HBx := Below.setCell (p := ⟨w.heap.size + 1, 6, none⟩) HBx (by simp) (.bool rst); replace hbx := Bks.setT hbx (p := ⟨w.heap.size + 1, 6, none⟩) Hr2.out (by decide) (.bool rst)
  have Hr3 := Lib.hid (cells_eq (b := #[.int .i64 fp, .int .i64 tp, .int .i64 sq, .int .i64 ack, .bool syn, .bool fin, .bool rst, .bool false, .int .i64 0, .int .i64 0, .bool false, .slice none 0 0, .string ⟨#[]⟩]) (block_setCell (k := 6) (v := .bool rst) Hr2.out) rfl); clear Hr2; have Hr2 := Hr3; clear Hr3
  replace HBx := Below.setCell (p := ⟨w.heap.size + 1, 7, none⟩) HBx (by simp) (.bool ha); replace hbx := Bks.setT hbx (p := ⟨w.heap.size + 1, 7, none⟩) Hr2.out (by decide) (.bool ha)
  have Hr3 := Lib.hid (cells_eq (b := #[.int .i64 fp, .int .i64 tp, .int .i64 sq, .int .i64 ack, .bool syn, .bool fin, .bool rst, .bool ha, .int .i64 0, .int .i64 0, .bool false, .slice none 0 0, .string ⟨#[]⟩]) (block_setCell (k := 7) (v := .bool ha) Hr2.out) rfl); clear Hr2; have Hr2 := Hr3; clear Hr3
  replace HBx := Below.setCell (p := ⟨w.heap.size + 1, 8, none⟩) HBx (by simp) (.int .i64 win); replace hbx := Bks.setT hbx (p := ⟨w.heap.size + 1, 8, none⟩) Hr2.out (by decide) (.int .i64 win)
  have Hr3 := Lib.hid (cells_eq (b := #[.int .i64 fp, .int .i64 tp, .int .i64 sq, .int .i64 ack, .bool syn, .bool fin, .bool rst, .bool ha, .int .i64 win, .int .i64 0, .bool false, .slice none 0 0, .string ⟨#[]⟩]) (block_setCell (k := 8) (v := .int .i64 win) Hr2.out) rfl); clear Hr2; have Hr2 := Hr3; clear Hr3
  replace HBx := Below.setCell (p := ⟨w.heap.size + 1, 9, none⟩) HBx (by simp) (.int .i64 mss); replace hbx := Bks.setT hbx (p := ⟨w.heap.size + 1, 9, none⟩) Hr2.out (by decide) (.int .i64 mss)
  have Hr3 := Lib.hid (cells_eq (b := #[.int .i64 fp, .int .i64 tp, .int .i64 sq, .int .i64 ack, .bool syn, .bool fin, .bool rst, .bool ha, .int .i64 win, .int .i64 mss, .bool false, .slice none 0 0, .string ⟨#[]⟩]) (block_setCell (k := 9) (v := .int .i64 mss) Hr2.out) rfl); clear Hr2; have Hr2 := Hr3; clear Hr3
  replace HBx := Below.setCell (p := ⟨w.heap.size + 1, 10, none⟩) HBx (by simp) (.bool sacks); replace hbx := Bks.setT hbx (p := ⟨w.heap.size + 1, 10, none⟩) Hr2.out (by decide) (.bool sacks)
  have Hr3 := Lib.hid (cells_eq (b := #[.int .i64 fp, .int .i64 tp, .int .i64 sq, .int .i64 ack, .bool syn, .bool fin, .bool rst, .bool ha, .int .i64 win, .int .i64 mss, .bool sacks, .slice none 0 0, .string ⟨#[]⟩]) (block_setCell (k := 10) (v := .bool sacks) Hr2.out) rfl); clear Hr2; have Hr2 := Hr3; clear Hr3
  replace HBx := Below.setCell (p := ⟨w.heap.size + 1, 11, none⟩) HBx (by simp) (.slice A m cap); replace hbx := Bks.setT hbx (p := ⟨w.heap.size + 1, 11, none⟩) Hr2.out (by decide) (.slice A m cap)
  have Hr3 := Lib.hid (cells_eq (b := #[.int .i64 fp, .int .i64 tp, .int .i64 sq, .int .i64 ack, .bool syn, .bool fin, .bool rst, .bool ha, .int .i64 win, .int .i64 mss, .bool sacks, .slice A m cap, .string ⟨#[]⟩]) (block_setCell (k := 11) (v := .slice A m cap) Hr2.out) rfl); clear Hr2; have Hr2 := Hr3; clear Hr3
  replace HBx := Below.setCell (p := ⟨w.heap.size + 1, 12, none⟩) HBx (by simp) (.string (s.extract 0 k)); replace hbx := Bks.setT hbx (p := ⟨w.heap.size + 1, 12, none⟩) Hr2.out (by decide) (.string (s.extract 0 k))
  have Hr3 := Lib.hid (cells_eq (b := #[.int .i64 fp, .int .i64 tp, .int .i64 sq, .int .i64 ack, .bool syn, .bool fin, .bool rst, .bool ha, .int .i64 win, .int .i64 mss, .bool sacks, .slice A m cap, .string (s.extract 0 k)]) (block_setCell (k := 12) (v := .string (s.extract 0 k)) Hr2.out) rfl); clear Hr2; have Hr2 := Hr3; clear Hr3
  generalize (World.setCell (World.setCell (World.setCell (World.setCell (World.setCell (World.setCell (World.setCell (World.setCell (World.setCell (World.setCell (World.setCell (World.setCell (World.setCell (World.setCell w1 ⟨w.heap.size, 11, none⟩ (.slice A m cap)) ⟨w.heap.size + 1, 0, none⟩ (.int .i64 fp)) ⟨w.heap.size + 1, 1, none⟩ (.int .i64 tp)) ⟨w.heap.size + 1, 2, none⟩ (.int .i64 sq)) ⟨w.heap.size + 1, 3, none⟩ (.int .i64 ack)) ⟨w.heap.size + 1, 4, none⟩ (.bool syn)) ⟨w.heap.size + 1, 5, none⟩ (.bool fin)) ⟨w.heap.size + 1, 6, none⟩ (.bool rst)) ⟨w.heap.size + 1, 7, none⟩ (.bool ha)) ⟨w.heap.size + 1, 8, none⟩ (.int .i64 win)) ⟨w.heap.size + 1, 9, none⟩ (.int .i64 mss)) ⟨w.heap.size + 1, 10, none⟩ (.bool sacks)) ⟨w.heap.size + 1, 11, none⟩ (.slice A m cap)) ⟨w.heap.size + 1, 12, none⟩ (.string (s.extract 0 k))) = wf at *
  refine bodyPost_ret (v := .agg #[.int .i64 fp, .int .i64 tp, .int .i64 sq, .int .i64 ack, .bool syn, .bool fin, .bool rst, .bool ha, .int .i64 win, .int .i64 mss, .bool sacks, .slice A m cap, .string (s.extract 0 k)]) ?_ rfl ⟨A, cap, rfl, hbx, HBx⟩
  exact res_cell1 (P := Tryd.prog) (fn := Tryd.f8) rfl Hr2.out rfl Tryd.underlying24 rfl (by kernel_rfl)

set_option maxRecDepth 100000 in
set_option maxHeartbeats 4000000 in
theorem cut_none (fp tp sq ack : Int) (syn fin rst ha : Bool) (win mss : Int) (sacks : Bool) (s : ByteArray) (k : Nat) (w : World) (hk : min (s.size : Int) 1100 = (k : Int)) (hks : k ≤ s.size) :
    Calls Tryd.prog 8 #[.agg #[.int .i64 fp, .int .i64 tp, .int .i64 sq, .int .i64 ack, .bool syn, .bool fin, .bool rst, .bool ha, .int .i64 win, .int .i64 mss, .bool sacks, .slice none 0 0, .string s]] w (CutPost fp tp sq ack syn fin rst ha win mss sacks [] s 0 k w) := by
  have ki1 : (k : Int) ≤ (s.size : Int) := by omega
  have ki2 : (0 : Int) ≤ (k : Int) := by omega
  go_enter Tryd.func8, Tryd.ntmps8
  go_wp2_with fail
  refine bodyPost_ret (v := .agg #[.int .i64 fp, .int .i64 tp, .int .i64 sq, .int .i64 ack, .bool syn, .bool fin, .bool rst, .bool ha, .int .i64 win, .int .i64 mss, .bool sacks, .slice none 0 0, .string (s.extract 0 k)]) ?_ rfl ⟨none, 0, rfl, bks_nil _ _, below_alloc (below_alloc (Below.refl _ _))⟩
  exact res_cell1 (P := Tryd.prog) (fn := Tryd.f8) rfl (alloc_new' _ _ (w.heap.size + 1) (by simp)) rfl Tryd.underlying24 rfl (by kernel_rfl)
end Go.Proofs.YtmgjcjacoegocaaDoor.Sg
