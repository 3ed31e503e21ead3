/-
  Contracts of segment.Decode, each way by itself; segment.read of a short string.
-/
import Derived.Test.YtmgjcjacoegocaaDoorSgRead
namespace Go.Proofs.YtmgjcjacoegocaaDoor.Sg
set_option maxRecDepth 100000
open Go.RowKit Go.Proofs.YtmgjcjacoegocaaDoor.Wire

theorem Bks.setT {W : World} {A : Option Addr} {n : Nat} {l : List (Int × Int)} (h : Bks W A n l) {p : Addr} {cs : Array Value} {t : TypeId} {fr : Nat × Nat} (hp : W.heap[p.block]? = some (.cells cs t fr)) (ht : t ≠ 73) (u : Value) : Bks (W.setCell p u) A n l :=
  ⟨h.1, fun hn => by
    obtain ⟨g, e, cur, hr, hc⟩ := h.2 hn
    refine ⟨g, e, cur, block_set_other hr (fun q => ?_), hc⟩
    subst q
    rw [hr] at hp
    injection hp with hp
    injection hp with _ ht'
    exact ht ht'.symm⟩
theorem read_short (t : ByteArray) (w : World) (h20 : t.size < 20) :
    Calls Tryd.prog 38 #[.string t] w fun e w' => e = .returned (.tuple #[.agg #[.int .i64 0, .int .i64 0, .int .i64 0, .int .i64 0, .bool false, .bool false, .bool false, .bool false, .int .i64 0, .int .i64 0, .bool false, .slice none 0 0, .string ⟨#[]⟩], .bool false]) ∧ Below w.heap.size w w' := by
  have hlt : decide ((t.size : Int) < 20) = true := by simp; omega
  go_enter Tryd.func38, Tryd.ntmps38
  go_wp2_with fail
  refine bodyPost_ret (v := .tuple #[.agg #[.int .i64 0, .int .i64 0, .int .i64 0, .int .i64 0, .bool false, .bool false, .bool false, .bool false, .int .i64 0, .int .i64 0, .bool false, .slice none 0 0, .string ⟨#[]⟩], .bool false]) ?_ rfl ⟨rfl, below_alloc (below_alloc (below_alloc (Below.refl _ _)))⟩
  exact res_cell_tmp Tryd.results38 (block_alloc (alloc_new' (w.alloc (.cells #[.string t] 9)) (.cells #[.int .i64 0, .int .i64 0, .int .i64 0, .int .i64 0, .bool false, .bool false, .bool false, .bool false, .int .i64 0, .int .i64 0, .bool false, .slice none 0 0, .string ⟨#[]⟩] 24) (w.heap.size + 1) (by simp)) _) rfl Tryd.underlying24 rfl (by kernel_rfl)

theorem Decode_noaddr (f d : Int) (t : ByteArray) (w : World) (h : ¬ (Adr f ∧ Adr d)) :
    Calls Tryd.prog 11 #[.int .i64 f, .int .i64 d, .string t] w fun e w' => e = .returned (.tuple #[.agg #[.int .i64 0, .int .i64 0, .int .i64 0, .int .i64 0, .bool false, .bool false, .bool false, .bool false, .int .i64 0, .int .i64 0, .bool false, .slice none 0 0, .string ⟨#[]⟩], .int .i64 30]) ∧ Below w.heap.size w w' := by
  by_cases hf : Adr f
  · have HF := Lib.hid fun w => addr_yes f hf w
    have HT := Lib.hid fun w => addr_no d (fun q => h ⟨hf, q⟩) w
    clear h hf
    go_enter Tryd.func11, Tryd.ntmps11
    go_wp2_with fail
    refine (HF.out _).mono ?_
    rintro e w' ⟨rfl, rfl⟩
    go_wp2_with fail
    refine (HT.out _).mono ?_
    rintro e w' ⟨rfl, rfl⟩
    go_wp2_with fail
    refine bodyPost_ret (v := .tuple #[.agg #[.int .i64 0, .int .i64 0, .int .i64 0, .int .i64 0, .bool false, .bool false, .bool false, .bool false, .int .i64 0, .int .i64 0, .bool false, .slice none 0 0, .string ⟨#[]⟩], .int .i64 30]) ?_ rfl ⟨rfl, below_alloc (Below.refl _ _)⟩
    exact res_cell_tmp Tryd.results11 (alloc_new w _) rfl Tryd.underlying24 rfl (by kernel_rfl)
  · have HF := Lib.hid fun w => addr_no f hf w
    clear h hf
    go_enter Tryd.func11, Tryd.ntmps11
    go_wp2_with fail
    refine (HF.out _).mono ?_
    rintro e w' ⟨rfl, rfl⟩
    go_wp2_with fail
    refine bodyPost_ret (v := .tuple #[.agg #[.int .i64 0, .int .i64 0, .int .i64 0, .int .i64 0, .bool false, .bool false, .bool false, .bool false, .int .i64 0, .int .i64 0, .bool false, .slice none 0 0, .string ⟨#[]⟩], .int .i64 30]) ?_ rfl ⟨rfl, below_alloc (Below.refl _ _)⟩
    exact res_cell_tmp Tryd.results11 (alloc_new w _) rfl Tryd.underlying24 rfl (by kernel_rfl)

set_option maxRecDepth 100000 in
set_option maxHeartbeats 4000000 in
theorem Decode_rno (f d : Int) (t : ByteArray) (w : World) (hf : Adr f) (ht : Adr d) (HR : Hid (∀ w, Calls Tryd.prog 38 #[.string t] w fun e w' => e = .returned (.tuple #[.agg #[.int .i64 0, .int .i64 0, .int .i64 0, .int .i64 0, .bool false, .bool false, .bool false, .bool false, .int .i64 0, .int .i64 0, .bool false, .slice none 0 0, .string ⟨#[]⟩], .bool false]) ∧ Below w.heap.size w w')) :
    Calls Tryd.prog 11 #[.int .i64 f, .int .i64 d, .string t] w fun e w' => e = .returned (.tuple #[.agg #[.int .i64 0, .int .i64 0, .int .i64 0, .int .i64 0, .bool false, .bool false, .bool false, .bool false, .int .i64 0, .int .i64 0, .bool false, .slice none 0 0, .string ⟨#[]⟩], .int .i64 110]) ∧ Below w.heap.size w w' := by
  have HF := Lib.hid fun w => addr_yes f hf w
  have HT := Lib.hid fun w => addr_yes d ht w
  clear hf ht
  have Hr := Lib.hid (alloc_new w (.cells #[.int .i64 0, .int .i64 0, .int .i64 0, .int .i64 0, .bool false, .bool false, .bool false, .bool false, .int .i64 0, .int .i64 0, .bool false, .slice none 0 0, .string ⟨#[]⟩] 24))
  have HB := below_alloc (o := .cells #[.int .i64 0, .int .i64 0, .int .i64 0, .int .i64 0, .bool false, .bool false, .bool false, .bool false, .int .i64 0, .int .i64 0, .bool false, .slice none 0 0, .string ⟨#[]⟩] 24) (Below.refl w.heap.size w)
  go_enter Tryd.func11, Tryd.ntmps11
  go_wp2_with fail
  refine (HF.out _).mono ?_
  rintro e w' ⟨rfl, rfl⟩
  go_wp2_with fail
  refine (HT.out _).mono ?_
  rintro e w' ⟨rfl, rfl⟩
  go_wp2_with fail
  refine (HR.out _).mono ?_
  rintro e w1 ⟨rfl, hb⟩
  have Hr' := Lib.hid (bblock hb Hr.out); clear Hr; have Hr := Hr'; clear Hr'
  have HB' := below_call HB hb; clear HB hb; have HB := HB'; clear HB'; have hz := HB.size
  have Hr' := Lib.hid (block_alloc Hr.out (.cells #[.int .i64 0, .int .i64 0, .int .i64 0, .int .i64 0, .bool false, .bool false, .bool false, .bool false, .int .i64 0, .int .i64 0, .bool false, .slice none 0 0, .string ⟨#[]⟩] 24)); clear Hr; have Hr := Hr'; clear Hr'
  have HB' := below_alloc (o := .cells #[.int .i64 0, .int .i64 0, .int .i64 0, .int .i64 0, .bool false, .bool false, .bool false, .bool false, .int .i64 0, .int .i64 0, .bool false, .slice none 0 0, .string ⟨#[]⟩] 24) HB; clear HB; have HB := HB'; clear HB'
  have qr0 := (cell_of_block (k := 0) Hr.out rfl).1; have zr0 := (cell_of_block (k := 0) Hr.out rfl).2; have qr1 := (cell_of_block (k := 1) Hr.out rfl).1; have zr1 := (cell_of_block (k := 1) Hr.out rfl).2; have qr2 := (cell_of_block (k := 2) Hr.out rfl).1; have zr2 := (cell_of_block (k := 2) Hr.out rfl).2; have qr3 := (cell_of_block (k := 3) Hr.out rfl).1; have zr3 := (cell_of_block (k := 3) Hr.out rfl).2; have qr4 := (cell_of_block (k := 4) Hr.out rfl).1; have zr4 := (cell_of_block (k := 4) Hr.out rfl).2; have qr5 := (cell_of_block (k := 5) Hr.out rfl).1; have zr5 := (cell_of_block (k := 5) Hr.out rfl).2; have qr6 := (cell_of_block (k := 6) Hr.out rfl).1; have zr6 := (cell_of_block (k := 6) Hr.out rfl).2; have qr7 := (cell_of_block (k := 7) Hr.out rfl).1; have zr7 := (cell_of_block (k := 7) Hr.out rfl).2; have qr8 := (cell_of_block (k := 8) Hr.out rfl).1; have zr8 := (cell_of_block (k := 8) Hr.out rfl).2; have qr9 := (cell_of_block (k := 9) Hr.out rfl).1; have zr9 := (cell_of_block (k := 9) Hr.out rfl).2; have qr10 := (cell_of_block (k := 10) Hr.out rfl).1; have zr10 := (cell_of_block (k := 10) Hr.out rfl).2; have qr11 := (cell_of_block (k := 11) Hr.out rfl).1; have zr11 := (cell_of_block (k := 11) Hr.out rfl).2; have qr12 := (cell_of_block (k := 12) Hr.out rfl).1; have zr12 := (cell_of_block (k := 12) Hr.out rfl).2; have lt_r := blk_lt Hr.out
  go_wp2_with fail
  have Hr2 := Hr; have HBx := HB; clear Hr HB
  replace HBx := Below.setCell (p := ⟨w.heap.size, 0, none⟩) HBx (by simp) (.int .i64 0)
  have Hr3 := Lib.hid (cells_eq (b := #[.int .i64 0, .int .i64 0, .int .i64 0, .int .i64 0, .bool false, .bool false, .bool false, .bool false, .int .i64 0, .int .i64 0, .bool false, .slice none 0 0, .string ⟨#[]⟩]) (block_setCell (k := 0) (v := .int .i64 0) Hr2.out) rfl); clear Hr2; have Hr2 := Hr3; clear Hr3
  replace HBx := Below.setCell (p := ⟨w.heap.size, 1, none⟩) HBx (by simp) (.int .i64 0)
  have Hr3 := Lib.hid (cells_eq (b := #[.int .i64 0, .int .i64 0, .int .i64 0, .int .i64 0, .bool false, .bool false, .bool false, .bool false, .int .i64 0, .int .i64 0, .bool false, .slice none 0 0, .string ⟨#[]⟩]) (block_setCell (k := 1) (v := .int .i64 0) Hr2.out) rfl); clear Hr2; have Hr2 := Hr3; clear Hr3
  replace HBx := Below.setCell (p := ⟨w.heap.size, 2, none⟩) HBx (by simp) (.int .i64 0)
  have Hr3 := Lib.hid (cells_eq (b := #[.int .i64 0, .int .i64 0, .int .i64 0, .int .i64 0, .bool false, .bool false, .bool false, .bool false, .int .i64 0, .int .i64 0, .bool false, .slice none 0 0, .string ⟨#[]⟩]) (block_setCell (k := 2) (v := .int .i64 0) Hr2.out) rfl); clear Hr2; have Hr2 := Hr3; clear Hr3
  replace HBx := Below.setCell (p := ⟨w.heap.size, 3, none⟩) HBx (by simp) (.int .i64 0)
  have Hr3 := Lib.hid (cells_eq (b := #[.int .i64 0, .int .i64 0, .int .i64 0, .int .i64 0, .bool false, .bool false, .bool false, .bool false, .int .i64 0, .int .i64 0, .bool false, .slice none 0 0, .string ⟨#[]⟩]) (block_setCell (k := 3) (v := .int .i64 0) Hr2.out) rfl); clear Hr2; have Hr2 := Hr3; clear Hr3
  replace HBx := Below.setCell (p := ⟨w.heap.size, 4, none⟩) HBx (by simp) (.bool false)
  have Hr3 := Lib.hid (cells_eq (b := #[.int .i64 0, .int .i64 0, .int .i64 0, .int .i64 0, .bool false, .bool false, .bool false, .bool false, .int .i64 0, .int .i64 0, .bool false, .slice none 0 0, .string ⟨#[]⟩]) (block_setCell (k := 4) (v := .bool false) Hr2.out) rfl); clear Hr2; have Hr2 := Hr3; clear Hr3
  replace HBx := Below.setCell (p := ⟨w.heap.size, 5, none⟩) HBx (by simp) (.bool false)
  have Hr3 := Lib.hid (cells_eq (b := #[.int .i64 0, .int .i64 0, .int .i64 0, .int .i64 0, .bool false, .bool false, .bool false, .bool false, .int .i64 0, .int .i64 0, .bool false, .slice none 0 0, .string ⟨#[]⟩]) (block_setCell (k := 5) (v := .bool false) Hr2.out) rfl); clear Hr2; have Hr2 := Hr3; clear Hr3
  replace HBx := Below.setCell (p := ⟨w.heap.size, 6, none⟩) HBx (by simp) (.bool false)
  have Hr3 := Lib.hid (cells_eq (b := #[.int .i64 0, .int .i64 0, .int .i64 0, .int .i64 0, .bool false, .bool false, .bool false, .bool false, .int .i64 0, .int .i64 0, .bool false, .slice none 0 0, .string ⟨#[]⟩]) (block_setCell (k := 6) (v := .bool false) Hr2.out) rfl); clear Hr2; have Hr2 := Hr3; clear Hr3
  replace HBx := Below.setCell (p := ⟨w.heap.size, 7, none⟩) HBx (by simp) (.bool false)
  have Hr3 := Lib.hid (cells_eq (b := #[.int .i64 0, .int .i64 0, .int .i64 0, .int .i64 0, .bool false, .bool false, .bool false, .bool false, .int .i64 0, .int .i64 0, .bool false, .slice none 0 0, .string ⟨#[]⟩]) (block_setCell (k := 7) (v := .bool false) Hr2.out) rfl); clear Hr2; have Hr2 := Hr3; clear Hr3
  replace HBx := Below.setCell (p := ⟨w.heap.size, 8, none⟩) HBx (by simp) (.int .i64 0)
  have Hr3 := Lib.hid (cells_eq (b := #[.int .i64 0, .int .i64 0, .int .i64 0, .int .i64 0, .bool false, .bool false, .bool false, .bool false, .int .i64 0, .int .i64 0, .bool false, .slice none 0 0, .string ⟨#[]⟩]) (block_setCell (k := 8) (v := .int .i64 0) Hr2.out) rfl); clear Hr2; have Hr2 := Hr3; clear Hr3
  replace HBx := Below.setCell (p := ⟨w.heap.size, 9, none⟩) HBx (by simp) (.int .i64 0)
  have Hr3 := Lib.hid (cells_eq (b := #[.int .i64 0, .int .i64 0, .int .i64 0, .int .i64 0, .bool false, .bool false, .bool false, .bool false, .int .i64 0, .int .i64 0, .bool false, .slice none 0 0, .string ⟨#[]⟩]) (block_setCell (k := 9) (v := .int .i64 0) Hr2.out) rfl); clear Hr2; have Hr2 := Hr3; clear Hr3
  replace HBx := Below.setCell (p := ⟨w.heap.size, 10, none⟩) HBx (by simp) (.bool false)
  have Hr3 := Lib.hid (cells_eq (b := #[.int .i64 0, .int .i64 0, .int .i64 0, .int .i64 0, .bool false, .bool false, .bool false, .bool false, .int .i64 0, .int .i64 0, .bool false, .slice none 0 0, .string ⟨#[]⟩]) (block_setCell (k := 10) (v := .bool false) Hr2.out) rfl); clear Hr2; have Hr2 := Hr3; clear Hr3
  replace HBx := Below.setCell (p := ⟨w.heap.size, 11, none⟩) HBx (by simp) (.slice none 0 0)
  have Hr3 := Lib.hid (cells_eq (b := #[.int .i64 0, .int .i64 0, .int .i64 0, .int .i64 0, .bool false, .bool false, .bool false, .bool false, .int .i64 0, .int .i64 0, .bool false, .slice none 0 0, .string ⟨#[]⟩]) (block_setCell (k := 11) (v := .slice none 0 0) Hr2.out) rfl); clear Hr2; have Hr2 := Hr3; clear Hr3
  replace HBx := Below.setCell (p := ⟨w.heap.size, 12, none⟩) HBx (by simp) (.string ⟨#[]⟩)
  have Hr3 := Lib.hid (cells_eq (b := #[.int .i64 0, .int .i64 0, .int .i64 0, .int .i64 0, .bool false, .bool false, .bool false, .bool false, .int .i64 0, .int .i64 0, .bool false, .slice none 0 0, .string ⟨#[]⟩]) (block_setCell (k := 12) (v := .string ⟨#[]⟩) Hr2.out) rfl); clear Hr2; have Hr2 := Hr3; clear Hr3
  generalize (World.setCell (World.setCell (World.setCell (World.setCell (World.setCell (World.setCell (World.setCell (World.setCell (World.setCell (World.setCell (World.setCell (World.setCell (World.setCell (w1.alloc (.cells #[.int .i64 0, .int .i64 0, .int .i64 0, .int .i64 0, .bool false, .bool false, .bool false, .bool false, .int .i64 0, .int .i64 0, .bool false, .slice none 0 0, .string ⟨#[]⟩] 24)) ⟨w.heap.size, 0, none⟩ (.int .i64 0)) ⟨w.heap.size, 1, none⟩ (.int .i64 0)) ⟨w.heap.size, 2, none⟩ (.int .i64 0)) ⟨w.heap.size, 3, none⟩ (.int .i64 0)) ⟨w.heap.size, 4, none⟩ (.bool false)) ⟨w.heap.size, 5, none⟩ (.bool false)) ⟨w.heap.size, 6, none⟩ (.bool false)) ⟨w.heap.size, 7, none⟩ (.bool false)) ⟨w.heap.size, 8, none⟩ (.int .i64 0)) ⟨w.heap.size, 9, none⟩ (.int .i64 0)) ⟨w.heap.size, 10, none⟩ (.bool false)) ⟨w.heap.size, 11, none⟩ (.slice none 0 0)) ⟨w.heap.size, 12, none⟩ (.string ⟨#[]⟩)) = wf at *
  refine bodyPost_ret (v := .tuple #[.agg #[.int .i64 0, .int .i64 0, .int .i64 0, .int .i64 0, .bool false, .bool false, .bool false, .bool false, .int .i64 0, .int .i64 0, .bool false, .slice none 0 0, .string ⟨#[]⟩], .int .i64 110]) ?_ rfl ⟨rfl, HBx⟩
  exact res_cell_tmp Tryd.results11 Hr2.out rfl Tryd.underlying24 rfl (by kernel_rfl)

set_option maxRecDepth 100000 in
set_option maxHeartbeats 4000000 in
theorem Decode_eno (f d : Int) (t : ByteArray) (fp tp sq ack : Int) (syn fin rst ha : Bool) (win mss : Int) (sacks : Bool) (n : Nat) (bl : List (Int × Int)) (s : ByteArray) (w : World) (hf : Adr f) (ht : Adr d) (HR : Hid (∀ w, Calls Tryd.prog 38 #[.string t] w fun e w' => ∃ (A : Option Addr) (c : Nat), e = .returned (.tuple #[.agg #[.int .i64 fp, .int .i64 tp, .int .i64 sq, .int .i64 ack, .bool syn, .bool fin, .bool rst, .bool ha, .int .i64 win, .int .i64 mss, .bool sacks, .slice A n c, .string s], .bool true]) ∧ Bks w' A n bl ∧ Below w.heap.size w w'))
    (HE : Hid (∀ (A : Option Addr) (c : Nat) w, Bks w A n bl → Calls Tryd.prog 9 #[.int .i64 f, .int .i64 d, .agg #[.int .i64 fp, .int .i64 tp, .int .i64 sq, .int .i64 ack, .bool syn, .bool fin, .bool rst, .bool ha, .int .i64 win, .int .i64 mss, .bool sacks, .slice A n c, .string s]] w fun e w' => e = .returned (.tuple #[.string ⟨#[]⟩, .int .i64 110]) ∧ Below w.heap.size w w')) :
    Calls Tryd.prog 11 #[.int .i64 f, .int .i64 d, .string t] w fun e w' => e = .returned (.tuple #[.agg #[.int .i64 0, .int .i64 0, .int .i64 0, .int .i64 0, .bool false, .bool false, .bool false, .bool false, .int .i64 0, .int .i64 0, .bool false, .slice none 0 0, .string ⟨#[]⟩], .int .i64 110]) ∧ Below w.heap.size w w' := by
  have HF := Lib.hid fun w => addr_yes f hf w
  have HT := Lib.hid fun w => addr_yes d ht w
  clear hf ht
  have Hr := Lib.hid (alloc_new w (.cells #[.int .i64 0, .int .i64 0, .int .i64 0, .int .i64 0, .bool false, .bool false, .bool false, .bool false, .int .i64 0, .int .i64 0, .bool false, .slice none 0 0, .string ⟨#[]⟩] 24))
  have HB := below_alloc (o := .cells #[.int .i64 0, .int .i64 0, .int .i64 0, .int .i64 0, .bool false, .bool false, .bool false, .bool false, .int .i64 0, .int .i64 0, .bool false, .slice none 0 0, .string ⟨#[]⟩] 24) (Below.refl w.heap.size w)
  go_enter Tryd.func11, Tryd.ntmps11
  go_wp2_with fail
  refine (HF.out _).mono ?_
  rintro e w' ⟨rfl, rfl⟩
  go_wp2_with fail
  refine (HT.out _).mono ?_
  rintro e w' ⟨rfl, rfl⟩
  go_wp2_with fail
  refine (HR.out _).mono ?_
  rintro e w1 ⟨A, c, rfl, hbk, hb⟩
  have hAq := hbk
  have Hr' := Lib.hid (bblock hb Hr.out); clear Hr; have Hr := Hr'; clear Hr'
  have HB' := below_call HB hb; clear HB hb; have HB := HB'; clear HB'; have hz := HB.size
  have Hr' := Lib.hid (block_alloc Hr.out (.cells #[.int .i64 fp, .int .i64 tp, .int .i64 sq, .int .i64 ack, .bool syn, .bool fin, .bool rst, .bool ha, .int .i64 win, .int .i64 mss, .bool sacks, .slice A n c, .string s] 24)); clear Hr; have Hr := Hr'; clear Hr'
  have Hs := Lib.hid (alloc_new w1 (.cells #[.int .i64 fp, .int .i64 tp, .int .i64 sq, .int .i64 ack, .bool syn, .bool fin, .bool rst, .bool ha, .int .i64 win, .int .i64 mss, .bool sacks, .slice A n c, .string s] 24))
  have HB' := below_alloc (o := .cells #[.int .i64 fp, .int .i64 tp, .int .i64 sq, .int .i64 ack, .bool syn, .bool fin, .bool rst, .bool ha, .int .i64 win, .int .i64 mss, .bool sacks, .slice A n c, .string s] 24) HB; clear HB hz; have HB := HB'; clear HB'; have hz := HB.size
  have HK := Lib.hid (hbk.alloc (.cells #[.int .i64 fp, .int .i64 tp, .int .i64 sq, .int .i64 ack, .bool syn, .bool fin, .bool rst, .bool ha, .int .i64 win, .int .i64 mss, .bool sacks, .slice A n c, .string s] 24)); clear hbk hAq
  have qs0 := (cell_of_block (k := 0) Hs.out rfl).1; have zs0 := (cell_of_block (k := 0) Hs.out rfl).2; have qs1 := (cell_of_block (k := 1) Hs.out rfl).1; have zs1 := (cell_of_block (k := 1) Hs.out rfl).2; have qs2 := (cell_of_block (k := 2) Hs.out rfl).1; have zs2 := (cell_of_block (k := 2) Hs.out rfl).2; have qs3 := (cell_of_block (k := 3) Hs.out rfl).1; have zs3 := (cell_of_block (k := 3) Hs.out rfl).2; have qs4 := (cell_of_block (k := 4) Hs.out rfl).1; have zs4 := (cell_of_block (k := 4) Hs.out rfl).2; have qs5 := (cell_of_block (k := 5) Hs.out rfl).1; have zs5 := (cell_of_block (k := 5) Hs.out rfl).2; have qs6 := (cell_of_block (k := 6) Hs.out rfl).1; have zs6 := (cell_of_block (k := 6) Hs.out rfl).2; have qs7 := (cell_of_block (k := 7) Hs.out rfl).1; have zs7 := (cell_of_block (k := 7) Hs.out rfl).2; have qs8 := (cell_of_block (k := 8) Hs.out rfl).1; have zs8 := (cell_of_block (k := 8) Hs.out rfl).2; have qs9 := (cell_of_block (k := 9) Hs.out rfl).1; have zs9 := (cell_of_block (k := 9) Hs.out rfl).2; have qs10 := (cell_of_block (k := 10) Hs.out rfl).1; have zs10 := (cell_of_block (k := 10) Hs.out rfl).2; have qs11 := (cell_of_block (k := 11) Hs.out rfl).1; have zs11 := (cell_of_block (k := 11) Hs.out rfl).2; have qs12 := (cell_of_block (k := 12) Hs.out rfl).1; have zs12 := (cell_of_block (k := 12) Hs.out rfl).2; have lt_s := blk_lt Hs.out
  go_wp2_with fail
  clear qs0 zs0 qs1 zs1 qs2 zs2 qs3 zs3 qs4 zs4 qs5 zs5 qs6 zs6 qs7 zs7 qs8 zs8 qs9 zs9 qs10 zs10 qs11 zs11 qs12 zs12 lt_s
  refine (HE.out A c _ HK.out).mono ?_
  rintro e w3 ⟨rfl, hb⟩
  have Hr' := Lib.hid (bblock hb Hr.out); clear Hr; have Hr := Hr'; clear Hr'; have Hs' := Lib.hid (bblock hb Hs.out); clear Hs; have Hs := Hs'; clear Hs'
  have HK' := Lib.hid (HK.out.below hb); clear HK; have HK := HK'; clear HK'
  have HB' := below_call HB hb; clear HB hb; have HB := HB'; clear HB'; have hz := HB.size
  have qr0 := (cell_of_block (k := 0) Hr.out rfl).1; have zr0 := (cell_of_block (k := 0) Hr.out rfl).2; have qr1 := (cell_of_block (k := 1) Hr.out rfl).1; have zr1 := (cell_of_block (k := 1) Hr.out rfl).2; have qr2 := (cell_of_block (k := 2) Hr.out rfl).1; have zr2 := (cell_of_block (k := 2) Hr.out rfl).2; have qr3 := (cell_of_block (k := 3) Hr.out rfl).1; have zr3 := (cell_of_block (k := 3) Hr.out rfl).2; have qr4 := (cell_of_block (k := 4) Hr.out rfl).1; have zr4 := (cell_of_block (k := 4) Hr.out rfl).2; have qr5 := (cell_of_block (k := 5) Hr.out rfl).1; have zr5 := (cell_of_block (k := 5) Hr.out rfl).2; have qr6 := (cell_of_block (k := 6) Hr.out rfl).1; have zr6 := (cell_of_block (k := 6) Hr.out rfl).2; have qr7 := (cell_of_block (k := 7) Hr.out rfl).1; have zr7 := (cell_of_block (k := 7) Hr.out rfl).2; have qr8 := (cell_of_block (k := 8) Hr.out rfl).1; have zr8 := (cell_of_block (k := 8) Hr.out rfl).2; have qr9 := (cell_of_block (k := 9) Hr.out rfl).1; have zr9 := (cell_of_block (k := 9) Hr.out rfl).2; have qr10 := (cell_of_block (k := 10) Hr.out rfl).1; have zr10 := (cell_of_block (k := 10) Hr.out rfl).2; have qr11 := (cell_of_block (k := 11) Hr.out rfl).1; have zr11 := (cell_of_block (k := 11) Hr.out rfl).2; have qr12 := (cell_of_block (k := 12) Hr.out rfl).1; have zr12 := (cell_of_block (k := 12) Hr.out rfl).2; have lt_r := blk_lt Hr.out
  have qs0 := (cell_of_block (k := 0) Hs.out rfl).1; have zs0 := (cell_of_block (k := 0) Hs.out rfl).2; have qs1 := (cell_of_block (k := 1) Hs.out rfl).1; have zs1 := (cell_of_block (k := 1) Hs.out rfl).2; have qs2 := (cell_of_block (k := 2) Hs.out rfl).1; have zs2 := (cell_of_block (k := 2) Hs.out rfl).2; have qs3 := (cell_of_block (k := 3) Hs.out rfl).1; have zs3 := (cell_of_block (k := 3) Hs.out rfl).2; have qs4 := (cell_of_block (k := 4) Hs.out rfl).1; have zs4 := (cell_of_block (k := 4) Hs.out rfl).2; have qs5 := (cell_of_block (k := 5) Hs.out rfl).1; have zs5 := (cell_of_block (k := 5) Hs.out rfl).2; have qs6 := (cell_of_block (k := 6) Hs.out rfl).1; have zs6 := (cell_of_block (k := 6) Hs.out rfl).2; have qs7 := (cell_of_block (k := 7) Hs.out rfl).1; have zs7 := (cell_of_block (k := 7) Hs.out rfl).2; have qs8 := (cell_of_block (k := 8) Hs.out rfl).1; have zs8 := (cell_of_block (k := 8) Hs.out rfl).2; have qs9 := (cell_of_block (k := 9) Hs.out rfl).1; have zs9 := (cell_of_block (k := 9) Hs.out rfl).2; have qs10 := (cell_of_block (k := 10) Hs.out rfl).1; have zs10 := (cell_of_block (k := 10) Hs.out rfl).2; have qs11 := (cell_of_block (k := 11) Hs.out rfl).1; have zs11 := (cell_of_block (k := 11) Hs.out rfl).2; have qs12 := (cell_of_block (k := 12) Hs.out rfl).1; have zs12 := (cell_of_block (k := 12) Hs.out rfl).2; have lt_s := blk_lt Hs.out
  go_wp2_with fail
  have Hr2 := Hr; have HBx := HB; clear Hr HB
  replace HBx := Below.setCell (p := ⟨w.heap.size, 0, none⟩) HBx (by simp) (.int .i64 0)
  have Hr3 := Lib.hid (cells_eq (b := #[.int .i64 0, .int .i64 0, .int .i64 0, .int .i64 0, .bool false, .bool false, .bool false, .bool false, .int .i64 0, .int .i64 0, .bool false, .slice none 0 0, .string ⟨#[]⟩]) (block_setCell (k := 0) (v := .int .i64 0) Hr2.out) rfl); clear Hr2; have Hr2 := Hr3; clear Hr3
  replace HBx := Below.setCell (p := ⟨w.heap.size, 1, none⟩) HBx (by simp) (.int .i64 0)
  have Hr3 := Lib.hid (cells_eq (b := #[.int .i64 0, .int .i64 0, .int .i64 0, .int .i64 0, .bool false, .bool false, .bool false, .bool false, .int .i64 0, .int .i64 0, .bool false, .slice none 0 0, .string ⟨#[]⟩]) (block_setCell (k := 1) (v := .int .i64 0) Hr2.out) rfl); clear Hr2; have Hr2 := Hr3; clear Hr3
  replace HBx := Below.setCell (p := ⟨w.heap.size, 2, none⟩) HBx (by simp) (.int .i64 0)
  have Hr3 := Lib.hid (cells_eq (b := #[.int .i64 0, .int .i64 0, .int .i64 0, .int .i64 0, .bool false, .bool false, .bool false, .bool false, .int .i64 0, .int .i64 0, .bool false, .slice none 0 0, .string ⟨#[]⟩]) (block_setCell (k := 2) (v := .int .i64 0) Hr2.out) rfl); clear Hr2; have Hr2 := Hr3; clear Hr3
  replace HBx := Below.setCell (p := ⟨w.heap.size, 3, none⟩) HBx (by simp) (.int .i64 0)
  have Hr3 := Lib.hid (cells_eq (b := #[.int .i64 0, .int .i64 0, .int .i64 0, .int .i64 0, .bool false, .bool false, .bool false, .bool false, .int .i64 0, .int .i64 0, .bool false, .slice none 0 0, .string ⟨#[]⟩]) (block_setCell (k := 3) (v := .int .i64 0) Hr2.out) rfl); clear Hr2; have Hr2 := Hr3; clear Hr3
  replace HBx := Below.setCell (p := ⟨w.heap.size, 4, none⟩) HBx (by simp) (.bool false)
  have Hr3 := Lib.hid (cells_eq (b := #[.int .i64 0, .int .i64 0, .int .i64 0, .int .i64 0, .bool false, .bool false, .bool false, .bool false, .int .i64 0, .int .i64 0, .bool false, .slice none 0 0, .string ⟨#[]⟩]) (block_setCell (k := 4) (v := .bool false) Hr2.out) rfl); clear Hr2; have Hr2 := Hr3; clear Hr3
  replace HBx := Below.setCell (p := ⟨w.heap.size, 5, none⟩) HBx (by simp) (.bool false)
  have Hr3 := Lib.hid (cells_eq (b := #[.int .i64 0, .int .i64 0, .int .i64 0, .int .i64 0, .bool false, .bool false, .bool false, .bool false, .int .i64 0, .int .i64 0, .bool false, .slice none 0 0, .string ⟨#[]⟩]) (block_setCell (k := 5) (v := .bool false) Hr2.out) rfl); clear Hr2; have Hr2 := Hr3; clear Hr3
  replace HBx := Below.setCell (p := ⟨w.heap.size, 6, none⟩) HBx (by simp) (.bool false)
  have Hr3 := Lib.hid (cells_eq (b := #[.int .i64 0, .int .i64 0, .int .i64 0, .int .i64 0, .bool false, .bool false, .bool false, .bool false, .int .i64 0, .int .i64 0, .bool false, .slice none 0 0, .string ⟨#[]⟩]) (block_setCell (k := 6) (v := .bool false) Hr2.out) rfl); clear Hr2; have Hr2 := Hr3; clear Hr3
  replace HBx := Below.setCell (p := ⟨w.heap.size, 7, none⟩) HBx (by simp) (.bool false)
  have Hr3 := Lib.hid (cells_eq (b := #[.int .i64 0, .int .i64 0, .int .i64 0, .int .i64 0, .bool false, .bool false, .bool false, .bool false, .int .i64 0, .int .i64 0, .bool false, .slice none 0 0, .string ⟨#[]⟩]) (block_setCell (k := 7) (v := .bool false) Hr2.out) rfl); clear Hr2; have Hr2 := Hr3; clear Hr3
  replace HBx := Below.setCell (p := ⟨w.heap.size, 8, none⟩) HBx (by simp) (.int .i64 0)
  have Hr3 := Lib.hid (cells_eq (b := #[.int .i64 0, .int .i64 0, .int .i64 0, .int .i64 0, .bool false, .bool false, .bool false, .bool false, .int .i64 0, .int .i64 0, .bool false, .slice none 0 0, .string ⟨#[]⟩]) (block_setCell (k := 8) (v := .int .i64 0) Hr2.out) rfl); clear Hr2; have Hr2 := Hr3; clear Hr3
  replace HBx := Below.setCell (p := ⟨w.heap.size, 9, none⟩) HBx (by simp) (.int .i64 0)
  have Hr3 := Lib.hid (cells_eq (b := #[.int .i64 0, .int .i64 0, .int .i64 0, .int .i64 0, .bool false, .bool false, .bool false, .bool false, .int .i64 0, .int .i64 0, .bool false, .slice none 0 0, .string ⟨#[]⟩]) (block_setCell (k := 9) (v := .int .i64 0) Hr2.out) rfl); clear Hr2; have Hr2 := Hr3; clear Hr3
  replace HBx := Below.setCell (p := ⟨w.heap.size, 10, none⟩) HBx (by simp) (.bool false)
  have Hr3 := Lib.hid (cells_eq (b := #[.int .i64 0, .int .i64 0, .int .i64 0, .int .i64 0, .bool false, .bool false, .bool false, .bool false, .int .i64 0, .int .i64 0, .bool false, .slice none 0 0, .string ⟨#[]⟩]) (block_setCell (k := 10) (v := .bool false) Hr2.out) rfl); clear Hr2; have Hr2 := Hr3; clear Hr3
  replace HBx := Below.setCell (p := ⟨w.heap.size, 11, none⟩) HBx (by simp) (.slice none 0 0)
  have Hr3 := Lib.hid (cells_eq (b := #[.int .i64 0, .int .i64 0, .int .i64 0, .int .i64 0, .bool false, .bool false, .bool false, .bool false, .int .i64 0, .int .i64 0, .bool false, .slice none 0 0, .string ⟨#[]⟩]) (block_setCell (k := 11) (v := .slice none 0 0) Hr2.out) rfl); clear Hr2; have Hr2 := Hr3; clear Hr3
  replace HBx := Below.setCell (p := ⟨w.heap.size, 12, none⟩) HBx (by simp) (.string ⟨#[]⟩)
  have Hr3 := Lib.hid (cells_eq (b := #[.int .i64 0, .int .i64 0, .int .i64 0, .int .i64 0, .bool false, .bool false, .bool false, .bool false, .int .i64 0, .int .i64 0, .bool false, .slice none 0 0, .string ⟨#[]⟩]) (block_setCell (k := 12) (v := .string ⟨#[]⟩) Hr2.out) rfl); clear Hr2; have Hr2 := Hr3; clear Hr3
  generalize (World.setCell (World.setCell (World.setCell (World.setCell (World.setCell (World.setCell (World.setCell (World.setCell (World.setCell (World.setCell (World.setCell (World.setCell (World.setCell w3 ⟨w.heap.size, 0, none⟩ (.int .i64 0)) ⟨w.heap.size, 1, none⟩ (.int .i64 0)) ⟨w.heap.size, 2, none⟩ (.int .i64 0)) ⟨w.heap.size, 3, none⟩ (.int .i64 0)) ⟨w.heap.size, 4, none⟩ (.bool false)) ⟨w.heap.size, 5, none⟩ (.bool false)) ⟨w.heap.size, 6, none⟩ (.bool false)) ⟨w.heap.size, 7, none⟩ (.bool false)) ⟨w.heap.size, 8, none⟩ (.int .i64 0)) ⟨w.heap.size, 9, none⟩ (.int .i64 0)) ⟨w.heap.size, 10, none⟩ (.bool false)) ⟨w.heap.size, 11, none⟩ (.slice none 0 0)) ⟨w.heap.size, 12, none⟩ (.string ⟨#[]⟩)) = wf at *
  refine bodyPost_ret (v := .tuple #[.agg #[.int .i64 0, .int .i64 0, .int .i64 0, .int .i64 0, .bool false, .bool false, .bool false, .bool false, .int .i64 0, .int .i64 0, .bool false, .slice none 0 0, .string ⟨#[]⟩], .int .i64 110]) ?_ rfl ⟨rfl, HBx⟩
  exact res_cell_tmp Tryd.results11 Hr2.out rfl Tryd.underlying24 rfl (by kernel_rfl)

set_option maxRecDepth 100000 in
set_option maxHeartbeats 4000000 in
theorem Decode_cno (f d : Int) (t : ByteArray) (fp tp sq ack : Int) (syn fin rst ha : Bool) (win mss : Int) (sacks : Bool) (n : Nat) (bl : List (Int × Int)) (s : ByteArray) (w : World) (E : List UInt8) (hf : Adr f) (ht : Adr d) (HR : Hid (∀ w, Calls Tryd.prog 38 #[.string t] w fun e w' => ∃ (A : Option Addr) (c : Nat), e = .returned (.tuple #[.agg #[.int .i64 fp, .int .i64 tp, .int .i64 sq, .int .i64 ack, .bool syn, .bool fin, .bool rst, .bool ha, .int .i64 win, .int .i64 mss, .bool sacks, .slice A n c, .string s], .bool true]) ∧ Bks w' A n bl ∧ Below w.heap.size w w'))
    (HE : Hid (∀ (A : Option Addr) (c : Nat) w, Bks w A n bl → Calls Tryd.prog 9 #[.int .i64 f, .int .i64 d, .agg #[.int .i64 fp, .int .i64 tp, .int .i64 sq, .int .i64 ack, .bool syn, .bool fin, .bool rst, .bool ha, .int .i64 win, .int .i64 mss, .bool sacks, .slice A n c, .string s]] w fun e w' => e = .returned (.tuple #[.string ⟨E.toArray⟩, .int .i64 0]) ∧ Below w.heap.size w w')) (hres : (E == t.toList) = false) :
    Calls Tryd.prog 11 #[.int .i64 f, .int .i64 d, .string t] w fun e w' => e = .returned (.tuple #[.agg #[.int .i64 0, .int .i64 0, .int .i64 0, .int .i64 0, .bool false, .bool false, .bool false, .bool false, .int .i64 0, .int .i64 0, .bool false, .slice none 0 0, .string ⟨#[]⟩], .int .i64 110]) ∧ Below w.heap.size w w' := by
  have HF := Lib.hid fun w => addr_yes f hf w
  have HT := Lib.hid fun w => addr_yes d ht w
  clear hf ht
  have Hr := Lib.hid (alloc_new w (.cells #[.int .i64 0, .int .i64 0, .int .i64 0, .int .i64 0, .bool false, .bool false, .bool false, .bool false, .int .i64 0, .int .i64 0, .bool false, .slice none 0 0, .string ⟨#[]⟩] 24))
  have HB := below_alloc (o := .cells #[.int .i64 0, .int .i64 0, .int .i64 0, .int .i64 0, .bool false, .bool false, .bool false, .bool false, .int .i64 0, .int .i64 0, .bool false, .slice none 0 0, .string ⟨#[]⟩] 24) (Below.refl w.heap.size w)
  go_enter Tryd.func11, Tryd.ntmps11
  go_wp2_with fail
  refine (HF.out _).mono ?_
  rintro e w' ⟨rfl, rfl⟩
  go_wp2_with fail
  refine (HT.out _).mono ?_
  rintro e w' ⟨rfl, rfl⟩
  go_wp2_with fail
  refine (HR.out _).mono ?_
  rintro e w1 ⟨A, c, rfl, hbk, hb⟩
  have hAq := hbk
  have Hr' := Lib.hid (bblock hb Hr.out); clear Hr; have Hr := Hr'; clear Hr'
  have HB' := below_call HB hb; clear HB hb; have HB := HB'; clear HB'; have hz := HB.size
  have Hr' := Lib.hid (block_alloc Hr.out (.cells #[.int .i64 fp, .int .i64 tp, .int .i64 sq, .int .i64 ack, .bool syn, .bool fin, .bool rst, .bool ha, .int .i64 win, .int .i64 mss, .bool sacks, .slice A n c, .string s] 24)); clear Hr; have Hr := Hr'; clear Hr'
  have Hs := Lib.hid (alloc_new w1 (.cells #[.int .i64 fp, .int .i64 tp, .int .i64 sq, .int .i64 ack, .bool syn, .bool fin, .bool rst, .bool ha, .int .i64 win, .int .i64 mss, .bool sacks, .slice A n c, .string s] 24))
  have HB' := below_alloc (o := .cells #[.int .i64 fp, .int .i64 tp, .int .i64 sq, .int .i64 ack, .bool syn, .bool fin, .bool rst, .bool ha, .int .i64 win, .int .i64 mss, .bool sacks, .slice A n c, .string s] 24) HB; clear HB hz; have HB := HB'; clear HB'; have hz := HB.size
  have HK := Lib.hid (hbk.alloc (.cells #[.int .i64 fp, .int .i64 tp, .int .i64 sq, .int .i64 ack, .bool syn, .bool fin, .bool rst, .bool ha, .int .i64 win, .int .i64 mss, .bool sacks, .slice A n c, .string s] 24)); clear hbk hAq
  have qs0 := (cell_of_block (k := 0) Hs.out rfl).1; have zs0 := (cell_of_block (k := 0) Hs.out rfl).2; have qs1 := (cell_of_block (k := 1) Hs.out rfl).1; have zs1 := (cell_of_block (k := 1) Hs.out rfl).2; have qs2 := (cell_of_block (k := 2) Hs.out rfl).1; have zs2 := (cell_of_block (k := 2) Hs.out rfl).2; have qs3 := (cell_of_block (k := 3) Hs.out rfl).1; have zs3 := (cell_of_block (k := 3) Hs.out rfl).2; have qs4 := (cell_of_block (k := 4) Hs.out rfl).1; have zs4 := (cell_of_block (k := 4) Hs.out rfl).2; have qs5 := (cell_of_block (k := 5) Hs.out rfl).1; have zs5 := (cell_of_block (k := 5) Hs.out rfl).2; have qs6 := (cell_of_block (k := 6) Hs.out rfl).1; have zs6 := (cell_of_block (k := 6) Hs.out rfl).2; have qs7 := (cell_of_block (k := 7) Hs.out rfl).1; have zs7 := (cell_of_block (k := 7) Hs.out rfl).2; have qs8 := (cell_of_block (k := 8) Hs.out rfl).1; have zs8 := (cell_of_block (k := 8) Hs.out rfl).2; have qs9 := (cell_of_block (k := 9) Hs.out rfl).1; have zs9 := (cell_of_block (k := 9) Hs.out rfl).2; have qs10 := (cell_of_block (k := 10) Hs.out rfl).1; have zs10 := (cell_of_block (k := 10) Hs.out rfl).2; have qs11 := (cell_of_block (k := 11) Hs.out rfl).1; have zs11 := (cell_of_block (k := 11) Hs.out rfl).2; have qs12 := (cell_of_block (k := 12) Hs.out rfl).1; have zs12 := (cell_of_block (k := 12) Hs.out rfl).2; have lt_s := blk_lt Hs.out
  go_wp2_with fail
  clear qs0 zs0 qs1 zs1 qs2 zs2 qs3 zs3 qs4 zs4 qs5 zs5 qs6 zs6 qs7 zs7 qs8 zs8 qs9 zs9 qs10 zs10 qs11 zs11 qs12 zs12 lt_s
  refine (HE.out A c _ HK.out).mono ?_
  rintro e w3 ⟨rfl, hb⟩
  have Hr' := Lib.hid (bblock hb Hr.out); clear Hr; have Hr := Hr'; clear Hr'; have Hs' := Lib.hid (bblock hb Hs.out); clear Hs; have Hs := Hs'; clear Hs'
  have HK' := Lib.hid (HK.out.below hb); clear HK; have HK := HK'; clear HK'
  have HB' := below_call HB hb; clear HB hb; have HB := HB'; clear HB'; have hz := HB.size
  have qr0 := (cell_of_block (k := 0) Hr.out rfl).1; have zr0 := (cell_of_block (k := 0) Hr.out rfl).2; have qr1 := (cell_of_block (k := 1) Hr.out rfl).1; have zr1 := (cell_of_block (k := 1) Hr.out rfl).2; have qr2 := (cell_of_block (k := 2) Hr.out rfl).1; have zr2 := (cell_of_block (k := 2) Hr.out rfl).2; have qr3 := (cell_of_block (k := 3) Hr.out rfl).1; have zr3 := (cell_of_block (k := 3) Hr.out rfl).2; have qr4 := (cell_of_block (k := 4) Hr.out rfl).1; have zr4 := (cell_of_block (k := 4) Hr.out rfl).2; have qr5 := (cell_of_block (k := 5) Hr.out rfl).1; have zr5 := (cell_of_block (k := 5) Hr.out rfl).2; have qr6 := (cell_of_block (k := 6) Hr.out rfl).1; have zr6 := (cell_of_block (k := 6) Hr.out rfl).2; have qr7 := (cell_of_block (k := 7) Hr.out rfl).1; have zr7 := (cell_of_block (k := 7) Hr.out rfl).2; have qr8 := (cell_of_block (k := 8) Hr.out rfl).1; have zr8 := (cell_of_block (k := 8) Hr.out rfl).2; have qr9 := (cell_of_block (k := 9) Hr.out rfl).1; have zr9 := (cell_of_block (k := 9) Hr.out rfl).2; have qr10 := (cell_of_block (k := 10) Hr.out rfl).1; have zr10 := (cell_of_block (k := 10) Hr.out rfl).2; have qr11 := (cell_of_block (k := 11) Hr.out rfl).1; have zr11 := (cell_of_block (k := 11) Hr.out rfl).2; have qr12 := (cell_of_block (k := 12) Hr.out rfl).1; have zr12 := (cell_of_block (k := 12) Hr.out rfl).2; have lt_r := blk_lt Hr.out
  have qs0 := (cell_of_block (k := 0) Hs.out rfl).1; have zs0 := (cell_of_block (k := 0) Hs.out rfl).2; have qs1 := (cell_of_block (k := 1) Hs.out rfl).1; have zs1 := (cell_of_block (k := 1) Hs.out rfl).2; have qs2 := (cell_of_block (k := 2) Hs.out rfl).1; have zs2 := (cell_of_block (k := 2) Hs.out rfl).2; have qs3 := (cell_of_block (k := 3) Hs.out rfl).1; have zs3 := (cell_of_block (k := 3) Hs.out rfl).2; have qs4 := (cell_of_block (k := 4) Hs.out rfl).1; have zs4 := (cell_of_block (k := 4) Hs.out rfl).2; have qs5 := (cell_of_block (k := 5) Hs.out rfl).1; have zs5 := (cell_of_block (k := 5) Hs.out rfl).2; have qs6 := (cell_of_block (k := 6) Hs.out rfl).1; have zs6 := (cell_of_block (k := 6) Hs.out rfl).2; have qs7 := (cell_of_block (k := 7) Hs.out rfl).1; have zs7 := (cell_of_block (k := 7) Hs.out rfl).2; have qs8 := (cell_of_block (k := 8) Hs.out rfl).1; have zs8 := (cell_of_block (k := 8) Hs.out rfl).2; have qs9 := (cell_of_block (k := 9) Hs.out rfl).1; have zs9 := (cell_of_block (k := 9) Hs.out rfl).2; have qs10 := (cell_of_block (k := 10) Hs.out rfl).1; have zs10 := (cell_of_block (k := 10) Hs.out rfl).2; have qs11 := (cell_of_block (k := 11) Hs.out rfl).1; have zs11 := (cell_of_block (k := 11) Hs.out rfl).2; have qs12 := (cell_of_block (k := 12) Hs.out rfl).1; have zs12 := (cell_of_block (k := 12) Hs.out rfl).2; have lt_s := blk_lt Hs.out
  have hres2 : (E != t.toList) = true := by simp [bne, hres]
  have hres3 := Lib.hid hres
  go_wp2_with fail
  have Hr2 := Hr; have HBx := HB; clear Hr HB
  replace HBx := Below.setCell (p := ⟨w.heap.size, 0, none⟩) HBx (by simp) (.int .i64 0)
  have Hr3 := Lib.hid (cells_eq (b := #[.int .i64 0, .int .i64 0, .int .i64 0, .int .i64 0, .bool false, .bool false, .bool false, .bool false, .int .i64 0, .int .i64 0, .bool false, .slice none 0 0, .string ⟨#[]⟩]) (block_setCell (k := 0) (v := .int .i64 0) Hr2.out) rfl); clear Hr2; have Hr2 := Hr3; clear Hr3
  replace HBx := Below.setCell (p := ⟨w.heap.size, 1, none⟩) HBx (by simp) (.int .i64 0)
  have Hr3 := Lib.hid (cells_eq (b := #[.int .i64 0, .int .i64 0, .int .i64 0, .int .i64 0, .bool false, .bool false, .bool false, .bool false, .int .i64 0, .int .i64 0, .bool false, .slice none 0 0, .string ⟨#[]⟩]) (block_setCell (k := 1) (v := .int .i64 0) Hr2.out) rfl); clear Hr2; have Hr2 := Hr3; clear Hr3
  replace HBx := Below.setCell (p := ⟨w.heap.size, 2, none⟩) HBx (by simp) (.int .i64 0)
  have Hr3 := Lib.hid (cells_eq (b := #[.int .i64 0, .int .i64 0, .int .i64 0, .int .i64 0, .bool false, .bool false, .bool false, .bool false, .int .i64 0, .int .i64 0, .bool false, .slice none 0 0, .string ⟨#[]⟩]) (block_setCell (k := 2) (v := .int .i64 0) Hr2.out) rfl); clear Hr2; have Hr2 := Hr3; clear Hr3
  replace HBx := Below.setCell (p := ⟨w.heap.size, 3, none⟩) HBx (by simp) (.int .i64 0)
  have Hr3 := Lib.hid (cells_eq (b := #[.int .i64 0, .int .i64 0, .int .i64 0, .int .i64 0, .bool false, .bool false, .bool false, .bool false, .int .i64 0, .int .i64 0, .bool false, .slice none 0 0, .string ⟨#[]⟩]) (block_setCell (k := 3) (v := .int .i64 0) Hr2.out) rfl); clear Hr2; have Hr2 := Hr3; clear Hr3
  replace HBx := Below.setCell (p := ⟨w.heap.size, 4, none⟩) HBx (by simp) (.bool false)
  have Hr3 := Lib.hid (cells_eq (b := #[.int .i64 0, .int .i64 0, .int .i64 0, .int .i64 0, .bool false, .bool false, .bool false, .bool false, .int .i64 0, .int .i64 0, .bool false, .slice none 0 0, .string ⟨#[]⟩]) (block_setCell (k := 4) (v := .bool false) Hr2.out) rfl); clear Hr2; have Hr2 := Hr3; clear Hr3
  replace HBx := Below.setCell (p := ⟨w.heap.size, 5, none⟩) HBx (by simp) (.bool false)
  have Hr3 := Lib.hid (cells_eq (b := #[.int .i64 0, .int .i64 0, .int .i64 0, .int .i64 0, .bool false, .bool false, .bool false, .bool false, .int .i64 0, .int .i64 0, .bool false, .slice none 0 0, .string ⟨#[]⟩]) (block_setCell (k := 5) (v := .bool false) Hr2.out) rfl); clear Hr2; have Hr2 := Hr3; clear Hr3
  replace HBx := Below.setCell (p := ⟨w.heap.size, 6, none⟩) HBx (by simp) (.bool false)
  have Hr3 := Lib.hid (cells_eq (b := #[.int .i64 0, .int .i64 0, .int .i64 0, .int .i64 0, .bool false, .bool false, .bool false, .bool false, .int .i64 0, .int .i64 0, .bool false, .slice none 0 0, .string ⟨#[]⟩]) (block_setCell (k := 6) (v := .bool false) Hr2.out) rfl); clear Hr2; have Hr2 := Hr3; clear Hr3
  replace HBx := Below.setCell (p := ⟨w.heap.size, 7, none⟩) HBx (by simp) (.bool false)
  have Hr3 := Lib.hid (cells_eq (b := #[.int .i64 0, .int .i64 0, .int .i64 0, .int .i64 0, .bool false, .bool false, .bool false, .bool false, .int .i64 0, .int .i64 0, .bool false, .slice none 0 0, .string ⟨#[]⟩]) (block_setCell (k := 7) (v := .bool false) Hr2.out) rfl); clear Hr2; have Hr2 := Hr3; clear Hr3
  replace HBx := Below.setCell (p := ⟨w.heap.size, 8, none⟩) HBx (by simp) (.int .i64 0)
  have Hr3 := Lib.hid (cells_eq (b := #[.int .i64 0, .int .i64 0, .int .i64 0, .int .i64 0, .bool false, .bool false, .bool false, .bool false, .int .i64 0, .int .i64 0, .bool false, .slice none 0 0, .string ⟨#[]⟩]) (block_setCell (k := 8) (v := .int .i64 0) Hr2.out) rfl); clear Hr2; have Hr2 := Hr3; clear Hr3
  replace HBx := Below.setCell (p := ⟨w.heap.size, 9, none⟩) HBx (by simp) (.int .i64 0)
  have Hr3 := Lib.hid (cells_eq (b := #[.int .i64 0, .int .i64 0, .int .i64 0, .int .i64 0, .bool false, .bool false, .bool false, .bool false, .int .i64 0, .int .i64 0, .bool false, .slice none 0 0, .string ⟨#[]⟩]) (block_setCell (k := 9) (v := .int .i64 0) Hr2.out) rfl); clear Hr2; have Hr2 := Hr3; clear Hr3
  replace HBx := Below.setCell (p := ⟨w.heap.size, 10, none⟩) HBx (by simp) (.bool false)
  have Hr3 := Lib.hid (cells_eq (b := #[.int .i64 0, .int .i64 0, .int .i64 0, .int .i64 0, .bool false, .bool false, .bool false, .bool false, .int .i64 0, .int .i64 0, .bool false, .slice none 0 0, .string ⟨#[]⟩]) (block_setCell (k := 10) (v := .bool false) Hr2.out) rfl); clear Hr2; have Hr2 := Hr3; clear Hr3
  replace HBx := Below.setCell (p := ⟨w.heap.size, 11, none⟩) HBx (by simp) (.slice none 0 0)
  have Hr3 := Lib.hid (cells_eq (b := #[.int .i64 0, .int .i64 0, .int .i64 0, .int .i64 0, .bool false, .bool false, .bool false, .bool false, .int .i64 0, .int .i64 0, .bool false, .slice none 0 0, .string ⟨#[]⟩]) (block_setCell (k := 11) (v := .slice none 0 0) Hr2.out) rfl); clear Hr2; have Hr2 := Hr3; clear Hr3
  replace HBx := Below.setCell (p := ⟨w.heap.size, 12, none⟩) HBx (by simp) (.string ⟨#[]⟩)
  have Hr3 := Lib.hid (cells_eq (b := #[.int .i64 0, .int .i64 0, .int .i64 0, .int .i64 0, .bool false, .bool false, .bool false, .bool false, .int .i64 0, .int .i64 0, .bool false, .slice none 0 0, .string ⟨#[]⟩]) (block_setCell (k := 12) (v := .string ⟨#[]⟩) Hr2.out) rfl); clear Hr2; have Hr2 := Hr3; clear Hr3
  generalize (World.setCell (World.setCell (World.setCell (World.setCell (World.setCell (World.setCell (World.setCell (World.setCell (World.setCell (World.setCell (World.setCell (World.setCell (World.setCell w3 ⟨w.heap.size, 0, none⟩ (.int .i64 0)) ⟨w.heap.size, 1, none⟩ (.int .i64 0)) ⟨w.heap.size, 2, none⟩ (.int .i64 0)) ⟨w.heap.size, 3, none⟩ (.int .i64 0)) ⟨w.heap.size, 4, none⟩ (.bool false)) ⟨w.heap.size, 5, none⟩ (.bool false)) ⟨w.heap.size, 6, none⟩ (.bool false)) ⟨w.heap.size, 7, none⟩ (.bool false)) ⟨w.heap.size, 8, none⟩ (.int .i64 0)) ⟨w.heap.size, 9, none⟩ (.int .i64 0)) ⟨w.heap.size, 10, none⟩ (.bool false)) ⟨w.heap.size, 11, none⟩ (.slice none 0 0)) ⟨w.heap.size, 12, none⟩ (.string ⟨#[]⟩)) = wf at *
  refine bodyPost_ret (v := .tuple #[.agg #[.int .i64 0, .int .i64 0, .int .i64 0, .int .i64 0, .bool false, .bool false, .bool false, .bool false, .int .i64 0, .int .i64 0, .bool false, .slice none 0 0, .string ⟨#[]⟩], .int .i64 110]) ?_ rfl ⟨rfl, HBx⟩
  exact res_cell_tmp Tryd.results11 Hr2.out rfl Tryd.underlying24 rfl (by kernel_rfl)

set_option maxRecDepth 100000 in
set_option maxHeartbeats 4000000 in
theorem Decode_yes (f d : Int) (t : ByteArray) (fp tp sq ack : Int) (syn fin rst ha : Bool) (win mss : Int) (sacks : Bool) (n : Nat) (bl : List (Int × Int)) (s : ByteArray) (w : World) (E : List UInt8) (hf : Adr f) (ht : Adr d) (HR : Hid (∀ w, Calls Tryd.prog 38 #[.string t] w fun e w' => ∃ (A : Option Addr) (c : Nat), e = .returned (.tuple #[.agg #[.int .i64 fp, .int .i64 tp, .int .i64 sq, .int .i64 ack, .bool syn, .bool fin, .bool rst, .bool ha, .int .i64 win, .int .i64 mss, .bool sacks, .slice A n c, .string s], .bool true]) ∧ Bks w' A n bl ∧ Below w.heap.size w w'))
    (HE : Hid (∀ (A : Option Addr) (c : Nat) w, Bks w A n bl → Calls Tryd.prog 9 #[.int .i64 f, .int .i64 d, .agg #[.int .i64 fp, .int .i64 tp, .int .i64 sq, .int .i64 ack, .bool syn, .bool fin, .bool rst, .bool ha, .int .i64 win, .int .i64 mss, .bool sacks, .slice A n c, .string s]] w fun e w' => e = .returned (.tuple #[.string ⟨E.toArray⟩, .int .i64 0]) ∧ Below w.heap.size w w')) (hres : (E == t.toList) = true) :
    Calls Tryd.prog 11 #[.int .i64 f, .int .i64 d, .string t] w fun e w' => ∃ (A : Option Addr) (c : Nat), e = .returned (.tuple #[.agg #[.int .i64 fp, .int .i64 tp, .int .i64 sq, .int .i64 ack, .bool syn, .bool fin, .bool rst, .bool ha, .int .i64 win, .int .i64 mss, .bool sacks, .slice A n c, .string s], .int .i64 0]) ∧ Bks w' A n bl ∧ Below w.heap.size w w' := by
  have HF := Lib.hid fun w => addr_yes f hf w
  have HT := Lib.hid fun w => addr_yes d ht w
  clear hf ht
  have Hr := Lib.hid (alloc_new w (.cells #[.int .i64 0, .int .i64 0, .int .i64 0, .int .i64 0, .bool false, .bool false, .bool false, .bool false, .int .i64 0, .int .i64 0, .bool false, .slice none 0 0, .string ⟨#[]⟩] 24))
  have HB := below_alloc (o := .cells #[.int .i64 0, .int .i64 0, .int .i64 0, .int .i64 0, .bool false, .bool false, .bool false, .bool false, .int .i64 0, .int .i64 0, .bool false, .slice none 0 0, .string ⟨#[]⟩] 24) (Below.refl w.heap.size w)
  go_enter Tryd.func11, Tryd.ntmps11
  go_wp2_with fail
  refine (HF.out _).mono ?_
  rintro e w' ⟨rfl, rfl⟩
  go_wp2_with fail
  refine (HT.out _).mono ?_
  rintro e w' ⟨rfl, rfl⟩
  go_wp2_with fail
  refine (HR.out _).mono ?_
  rintro e w1 ⟨A, c, rfl, hbk, hb⟩
  have hAq := hbk
  have Hr' := Lib.hid (bblock hb Hr.out); clear Hr; have Hr := Hr'; clear Hr'
  have HB' := below_call HB hb; clear HB hb; have HB := HB'; clear HB'; have hz := HB.size
  have Hr' := Lib.hid (block_alloc Hr.out (.cells #[.int .i64 fp, .int .i64 tp, .int .i64 sq, .int .i64 ack, .bool syn, .bool fin, .bool rst, .bool ha, .int .i64 win, .int .i64 mss, .bool sacks, .slice A n c, .string s] 24)); clear Hr; have Hr := Hr'; clear Hr'
  have Hs := Lib.hid (alloc_new w1 (.cells #[.int .i64 fp, .int .i64 tp, .int .i64 sq, .int .i64 ack, .bool syn, .bool fin, .bool rst, .bool ha, .int .i64 win, .int .i64 mss, .bool sacks, .slice A n c, .string s] 24))
  have HB' := below_alloc (o := .cells #[.int .i64 fp, .int .i64 tp, .int .i64 sq, .int .i64 ack, .bool syn, .bool fin, .bool rst, .bool ha, .int .i64 win, .int .i64 mss, .bool sacks, .slice A n c, .string s] 24) HB; clear HB hz; have HB := HB'; clear HB'; have hz := HB.size
  have HK := Lib.hid (hbk.alloc (.cells #[.int .i64 fp, .int .i64 tp, .int .i64 sq, .int .i64 ack, .bool syn, .bool fin, .bool rst, .bool ha, .int .i64 win, .int .i64 mss, .bool sacks, .slice A n c, .string s] 24)); clear hbk hAq
  have qs0 := (cell_of_block (k := 0) Hs.out rfl).1; have zs0 := (cell_of_block (k := 0) Hs.out rfl).2; have qs1 := (cell_of_block (k := 1) Hs.out rfl).1; have zs1 := (cell_of_block (k := 1) Hs.out rfl).2; have qs2 := (cell_of_block (k := 2) Hs.out rfl).1; have zs2 := (cell_of_block (k := 2) Hs.out rfl).2; have qs3 := (cell_of_block (k := 3) Hs.out rfl).1; have zs3 := (cell_of_block (k := 3) Hs.out rfl).2; have qs4 := (cell_of_block (k := 4) Hs.out rfl).1; have zs4 := (cell_of_block (k := 4) Hs.out rfl).2; have qs5 := (cell_of_block (k := 5) Hs.out rfl).1; have zs5 := (cell_of_block (k := 5) Hs.out rfl).2; have qs6 := (cell_of_block (k := 6) Hs.out rfl).1; have zs6 := (cell_of_block (k := 6) Hs.out rfl).2; have qs7 := (cell_of_block (k := 7) Hs.out rfl).1; have zs7 := (cell_of_block (k := 7) Hs.out rfl).2; have qs8 := (cell_of_block (k := 8) Hs.out rfl).1; have zs8 := (cell_of_block (k := 8) Hs.out rfl).2; have qs9 := (cell_of_block (k := 9) Hs.out rfl).1; have zs9 := (cell_of_block (k := 9) Hs.out rfl).2; have qs10 := (cell_of_block (k := 10) Hs.out rfl).1; have zs10 := (cell_of_block (k := 10) Hs.out rfl).2; have qs11 := (cell_of_block (k := 11) Hs.out rfl).1; have zs11 := (cell_of_block (k := 11) Hs.out rfl).2; have qs12 := (cell_of_block (k := 12) Hs.out rfl).1; have zs12 := (cell_of_block (k := 12) Hs.out rfl).2; have lt_s := blk_lt Hs.out
  go_wp2_with fail
  clear qs0 zs0 qs1 zs1 qs2 zs2 qs3 zs3 qs4 zs4 qs5 zs5 qs6 zs6 qs7 zs7 qs8 zs8 qs9 zs9 qs10 zs10 qs11 zs11 qs12 zs12 lt_s
  refine (HE.out A c _ HK.out).mono ?_
  rintro e w3 ⟨rfl, hb⟩
  have Hr' := Lib.hid (bblock hb Hr.out); clear Hr; have Hr := Hr'; clear Hr'; have Hs' := Lib.hid (bblock hb Hs.out); clear Hs; have Hs := Hs'; clear Hs'
  have HK' := Lib.hid (HK.out.below hb); clear HK; have HK := HK'; clear HK'
  have HB' := below_call HB hb; clear HB hb; have HB := HB'; clear HB'; have hz := HB.size
  have qr0 := (cell_of_block (k := 0) Hr.out rfl).1; have zr0 := (cell_of_block (k := 0) Hr.out rfl).2; have qr1 := (cell_of_block (k := 1) Hr.out rfl).1; have zr1 := (cell_of_block (k := 1) Hr.out rfl).2; have qr2 := (cell_of_block (k := 2) Hr.out rfl).1; have zr2 := (cell_of_block (k := 2) Hr.out rfl).2; have qr3 := (cell_of_block (k := 3) Hr.out rfl).1; have zr3 := (cell_of_block (k := 3) Hr.out rfl).2; have qr4 := (cell_of_block (k := 4) Hr.out rfl).1; have zr4 := (cell_of_block (k := 4) Hr.out rfl).2; have qr5 := (cell_of_block (k := 5) Hr.out rfl).1; have zr5 := (cell_of_block (k := 5) Hr.out rfl).2; have qr6 := (cell_of_block (k := 6) Hr.out rfl).1; have zr6 := (cell_of_block (k := 6) Hr.out rfl).2; have qr7 := (cell_of_block (k := 7) Hr.out rfl).1; have zr7 := (cell_of_block (k := 7) Hr.out rfl).2; have qr8 := (cell_of_block (k := 8) Hr.out rfl).1; have zr8 := (cell_of_block (k := 8) Hr.out rfl).2; have qr9 := (cell_of_block (k := 9) Hr.out rfl).1; have zr9 := (cell_of_block (k := 9) Hr.out rfl).2; have qr10 := (cell_of_block (k := 10) Hr.out rfl).1; have zr10 := (cell_of_block (k := 10) Hr.out rfl).2; have qr11 := (cell_of_block (k := 11) Hr.out rfl).1; have zr11 := (cell_of_block (k := 11) Hr.out rfl).2; have qr12 := (cell_of_block (k := 12) Hr.out rfl).1; have zr12 := (cell_of_block (k := 12) Hr.out rfl).2; have lt_r := blk_lt Hr.out
  have qs0 := (cell_of_block (k := 0) Hs.out rfl).1; have zs0 := (cell_of_block (k := 0) Hs.out rfl).2; have qs1 := (cell_of_block (k := 1) Hs.out rfl).1; have zs1 := (cell_of_block (k := 1) Hs.out rfl).2; have qs2 := (cell_of_block (k := 2) Hs.out rfl).1; have zs2 := (cell_of_block (k := 2) Hs.out rfl).2; have qs3 := (cell_of_block (k := 3) Hs.out rfl).1; have zs3 := (cell_of_block (k := 3) Hs.out rfl).2; have qs4 := (cell_of_block (k := 4) Hs.out rfl).1; have zs4 := (cell_of_block (k := 4) Hs.out rfl).2; have qs5 := (cell_of_block (k := 5) Hs.out rfl).1; have zs5 := (cell_of_block (k := 5) Hs.out rfl).2; have qs6 := (cell_of_block (k := 6) Hs.out rfl).1; have zs6 := (cell_of_block (k := 6) Hs.out rfl).2; have qs7 := (cell_of_block (k := 7) Hs.out rfl).1; have zs7 := (cell_of_block (k := 7) Hs.out rfl).2; have qs8 := (cell_of_block (k := 8) Hs.out rfl).1; have zs8 := (cell_of_block (k := 8) Hs.out rfl).2; have qs9 := (cell_of_block (k := 9) Hs.out rfl).1; have zs9 := (cell_of_block (k := 9) Hs.out rfl).2; have qs10 := (cell_of_block (k := 10) Hs.out rfl).1; have zs10 := (cell_of_block (k := 10) Hs.out rfl).2; have qs11 := (cell_of_block (k := 11) Hs.out rfl).1; have zs11 := (cell_of_block (k := 11) Hs.out rfl).2; have qs12 := (cell_of_block (k := 12) Hs.out rfl).1; have zs12 := (cell_of_block (k := 12) Hs.out rfl).2; have lt_s := blk_lt Hs.out
  have hres2 : (E != t.toList) = false := by simp [bne, hres]
  have hres3 := Lib.hid hres
  go_wp2_with fail
  have hbx := HK.out
  have Hr2 := Hr; have HBx := HB; clear Hr HB
  replace HBx := Below.setCell (p := ⟨w.heap.size, 0, none⟩) HBx (by simp) (.int .i64 fp); replace hbx := Bks.setT hbx (p := ⟨w.heap.size, 0, none⟩) Hr2.out (by decide) (.int .i64 fp)
  have Hr3 := Lib.hid (cells_eq (b := #[.int .i64 fp, .int .i64 0, .int .i64 0, .int .i64 0, .bool false, .bool false, .bool false, .bool false, .int .i64 0, .int .i64 0, .bool false, .slice none 0 0, .string ⟨#[]⟩]) (block_setCell (k := 0) (v := .int .i64 fp) Hr2.out) rfl); clear Hr2; have Hr2 := Hr3; clear Hr3
  replace HBx := Below.setCell (p := ⟨w.heap.size, 1, none⟩) HBx (by simp) (.int .i64 tp); replace hbx := Bks.setT hbx (p := ⟨w.heap.size, 1, none⟩) Hr2.out (by decide) (.int .i64 tp)
  have Hr3 := Lib.hid (cells_eq (b := #[.int .i64 fp, .int .i64 tp, .int .i64 0, .int .i64 0, .bool false, .bool false, .bool false, .bool false, .int .i64 0, .int .i64 0, .bool false, .slice none 0 0, .string ⟨#[]⟩]) (block_setCell (k := 1) (v := .int .i64 tp) Hr2.out) rfl); clear Hr2; have Hr2 := Hr3; clear Hr3
  replace HBx := Below.setCell (p := ⟨w.heap.size, 2, none⟩) HBx (by simp) (.int .i64 sq); replace hbx := Bks.setT hbx (p := ⟨w.heap.size, 2, none⟩) Hr2.out (by decide) (.int .i64 sq)
  have Hr3 := Lib.hid (cells_eq (b := #[.int .i64 fp, .int .i64 tp, .int .i64 sq, .int .i64 0, .bool false, .bool false, .bool false, .bool false, .int .i64 0, .int .i64 0, .bool false, .slice none 0 0, .string ⟨#[]⟩]) (block_setCell (k := 2) (v := .int .i64 sq) Hr2.out) rfl); clear Hr2; have Hr2 := Hr3; clear Hr3
  replace HBx := Below.setCell (p := ⟨w.heap.size, 3, none⟩) HBx (by simp) (.int .i64 ack); replace hbx := Bks.setT hbx (p := ⟨w.heap.size, 3, none⟩) Hr2.out (by decide) (.int .i64 ack)
  have Hr3 := Lib.hid (cells_eq (b := #[.int .i64 fp, .int .i64 tp, .int .i64 sq, .int .i64 ack, .bool false, .bool false, .bool false, .bool false, .int .i64 0, .int .i64 0, .bool false, .slice none 0 0, .string ⟨#[]⟩]) (block_setCell (k := 3) (v := .int .i64 ack) Hr2.out) rfl); clear Hr2; have Hr2 := Hr3; clear Hr3
  replace HBx := Below.setCell (p := ⟨w.heap.size, 4, none⟩) HBx (by simp) (.bool syn); replace hbx := Bks.setT hbx (p := ⟨w.heap.size, 4, none⟩) Hr2.out (by decide) (.bool syn)
  have Hr3 := Lib.hid (cells_eq (b := #[.int .i64 fp, .int .i64 tp, .int .i64 sq, .int .i64 ack, .bool syn, .bool false, .bool false, .bool false, .int .i64 0, .int .i64 0, .bool false, .slice none 0 0, .string ⟨#[]⟩]) (block_setCell (k := 4) (v := .bool syn) Hr2.out) rfl); clear Hr2; have Hr2 := Hr3; clear Hr3
  replace HBx := Below.setCell (p := ⟨w.heap.size, 5, none⟩) HBx (by simp) (.bool fin); replace hbx := Bks.setT hbx (p := ⟨w.heap.size, 5, none⟩) Hr2.out (by decide) (.bool fin)
  have Hr3 := Lib.hid (cells_eq (b := #[.int .i64 fp, .int .i64 tp, .int .i64 sq, .int .i64 ack, .bool syn, .bool fin, .bool false, .bool false, .int .i64 0, .int .i64 0, .bool false, .slice none 0 0, .string ⟨#[]⟩]) (block_setCell (k := 5) (v := .bool fin) Hr2.out) rfl); clear Hr2; have Hr2 := Hr3; clear Hr3
  replace HBx := Below.setCell (p := ⟨w.heap.size, 6, none⟩) HBx (by simp) (.bool rst); replace hbx := Bks.setT hbx (p := ⟨w.heap.size, 6, none⟩) Hr2.out (by decide) (.bool rst)
  have Hr3 := Lib.hid (cells_eq (b := #[.int .i64 fp, .int .i64 tp, .int .i64 sq, .int .i64 ack, .bool syn, .bool fin, .bool rst, .bool false, .int .i64 0, .int .i64 0, .bool false, .slice none 0 0, .string ⟨#[]⟩]) (block_setCell (k := 6) (v := .bool rst) Hr2.out) rfl); clear Hr2; have Hr2 := Hr3; clear Hr3
  replace HBx := Below.setCell (p := ⟨w.heap.size, 7, none⟩) HBx (by simp) (.bool ha); replace hbx := Bks.setT hbx (p := ⟨w.heap.size, 7, none⟩) Hr2.out (by decide) (.bool ha)
  have Hr3 := Lib.hid (cells_eq (b := #[.int .i64 fp, .int .i64 tp, .int .i64 sq, .int .i64 ack, .bool syn, .bool fin, .bool rst, .bool ha, .int .i64 0, .int .i64 0, .bool false, .slice none 0 0, .string ⟨#[]⟩]) (block_setCell (k := 7) (v := .bool ha) Hr2.out) rfl); clear Hr2; have Hr2 := Hr3; clear Hr3
  replace HBx := Below.setCell (p := ⟨w.heap.size, 8, none⟩) HBx (by simp) (.int .i64 win); replace hbx := Bks.setT hbx (p := ⟨w.heap.size, 8, none⟩) Hr2.out (by decide) (.int .i64 win)
  have Hr3 := Lib.hid (cells_eq (b := #[.int .i64 fp, .int .i64 tp, .int .i64 sq, .int .i64 ack, .bool syn, .bool fin, .bool rst, .bool ha, .int .i64 win, .int .i64 0, .bool false, .slice none 0 0, .string ⟨#[]⟩]) (block_setCell (k := 8) (v := .int .i64 win) Hr2.out) rfl); clear Hr2; have Hr2 := Hr3; clear Hr3
  replace HBx := Below.setCell (p := ⟨w.heap.size, 9, none⟩) HBx (by simp) (.int .i64 mss); replace hbx := Bks.setT hbx (p := ⟨w.heap.size, 9, none⟩) Hr2.out (by decide) (.int .i64 mss)
  have Hr3 := Lib.hid (cells_eq (b := #[.int .i64 fp, .int .i64 tp, .int .i64 sq, .int .i64 ack, .bool syn, .bool fin, .bool rst, .bool ha, .int .i64 win, .int .i64 mss, .bool false, .slice none 0 0, .string ⟨#[]⟩]) (block_setCell (k := 9) (v := .int .i64 mss) Hr2.out) rfl); clear Hr2; have Hr2 := Hr3; clear Hr3
  replace HBx := Below.setCell (p := ⟨w.heap.size, 10, none⟩) HBx (by simp) (.bool sacks); replace hbx := Bks.setT hbx (p := ⟨w.heap.size, 10, none⟩) Hr2.out (by decide) (.bool sacks)
  have Hr3 := Lib.hid (cells_eq (b := #[.int .i64 fp, .int .i64 tp, .int .i64 sq, .int .i64 ack, .bool syn, .bool fin, .bool rst, .bool ha, .int .i64 win, .int .i64 mss, .bool sacks, .slice none 0 0, .string ⟨#[]⟩]) (block_setCell (k := 10) (v := .bool sacks) Hr2.out) rfl); clear Hr2; have Hr2 := Hr3; clear Hr3
  replace HBx := Below.setCell (p := ⟨w.heap.size, 11, none⟩) HBx (by simp) (.slice A n c); replace hbx := Bks.setT hbx (p := ⟨w.heap.size, 11, none⟩) Hr2.out (by decide) (.slice A n c)
  have Hr3 := Lib.hid (cells_eq (b := #[.int .i64 fp, .int .i64 tp, .int .i64 sq, .int .i64 ack, .bool syn, .bool fin, .bool rst, .bool ha, .int .i64 win, .int .i64 mss, .bool sacks, .slice A n c, .string ⟨#[]⟩]) (block_setCell (k := 11) (v := .slice A n c) Hr2.out) rfl); clear Hr2; have Hr2 := Hr3; clear Hr3
  replace HBx := Below.setCell (p := ⟨w.heap.size, 12, none⟩) HBx (by simp) (.string s); replace hbx := Bks.setT hbx (p := ⟨w.heap.size, 12, none⟩) Hr2.out (by decide) (.string s)
  have Hr3 := Lib.hid (cells_eq (b := #[.int .i64 fp, .int .i64 tp, .int .i64 sq, .int .i64 ack, .bool syn, .bool fin, .bool rst, .bool ha, .int .i64 win, .int .i64 mss, .bool sacks, .slice A n c, .string s]) (block_setCell (k := 12) (v := .string s) Hr2.out) rfl); clear Hr2; have Hr2 := Hr3; clear Hr3
  generalize (World.setCell (World.setCell (World.setCell (World.setCell (World.setCell (World.setCell (World.setCell (World.setCell (World.setCell (World.setCell (World.setCell (World.setCell (World.setCell w3 ⟨w.heap.size, 0, none⟩ (.int .i64 fp)) ⟨w.heap.size, 1, none⟩ (.int .i64 tp)) ⟨w.heap.size, 2, none⟩ (.int .i64 sq)) ⟨w.heap.size, 3, none⟩ (.int .i64 ack)) ⟨w.heap.size, 4, none⟩ (.bool syn)) ⟨w.heap.size, 5, none⟩ (.bool fin)) ⟨w.heap.size, 6, none⟩ (.bool rst)) ⟨w.heap.size, 7, none⟩ (.bool ha)) ⟨w.heap.size, 8, none⟩ (.int .i64 win)) ⟨w.heap.size, 9, none⟩ (.int .i64 mss)) ⟨w.heap.size, 10, none⟩ (.bool sacks)) ⟨w.heap.size, 11, none⟩ (.slice A n c)) ⟨w.heap.size, 12, none⟩ (.string s)) = wf at *
  refine bodyPost_ret (v := .tuple #[.agg #[.int .i64 fp, .int .i64 tp, .int .i64 sq, .int .i64 ack, .bool syn, .bool fin, .bool rst, .bool ha, .int .i64 win, .int .i64 mss, .bool sacks, .slice A n c, .string s], .int .i64 0]) ?_ rfl ⟨A, c, rfl, hbx, HBx⟩
  exact res_cell_tmp Tryd.results11 Hr2.out rfl Tryd.underlying24 rfl (by kernel_rfl)
end Go.Proofs.YtmgjcjacoegocaaDoor.Sg
