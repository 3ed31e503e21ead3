/-
  Contracts of segment.Same: two equal segments; two segments whose numbers differ.
-/
import Derived.Test.YtmgjcjacoegocaaDoorSgRsame
import Derived.Deep.RegionHeld3
import Derived.Deep.QuietTactic
namespace Go.Proofs.YtmgjcjacoegocaaDoor.Sg
set_option maxRecDepth 100000
open Go.RowKit Go.Proofs.YtmgjcjacoegocaaDoor.Wire

theorem flags_eq (a b c d e : Bool) (W : World) : (binOp .eql 139 (.agg #[.bool a, .bool b, .bool c, .bool d, .bool e]) (.agg #[.bool a, .bool b, .bool c, .bool d, .bool e])).run Tryd.prog W = .ok (.bool true) W := by
  cases a <;> cases b <;> cases c <;> cases d <;> cases e <;> kernel_rfl
set_option maxRecDepth 100000 in
set_option maxHeartbeats 4000000 in
theorem same_yes (x : Seg) (A A' : Option Addr) (c c' : Nat) (w : World) (hn : x.bl.length ≤ 9223372036854775807) (hb : Bks w A x.bl.length x.bl) (hb' : Bks w A' x.bl.length x.bl) :
    Calls Tryd.prog 28 #[.agg #[.int .i64 x.fp, .int .i64 x.tp, .int .i64 x.sq, .int .i64 x.ack, .bool x.syn, .bool x.fin, .bool x.rst, .bool x.ha, .int .i64 x.win, .int .i64 x.mss, .bool x.sacks, .slice A x.bl.length c, .string x.s], .agg #[.int .i64 x.fp, .int .i64 x.tp, .int .i64 x.sq, .int .i64 x.ack, .bool x.syn, .bool x.fin, .bool x.rst, .bool x.ha, .int .i64 x.win, .int .i64 x.mss, .bool x.sacks, .slice A' x.bl.length c', .string x.s]] w fun e w' => e = .returned (.bool true) ∧ Below w.heap.size w w' := by
  have HE : Hid (∀ W, Below w.heap.size w W → Calls Tryd.prog 65 #[.slice A x.bl.length c, .slice A' x.bl.length c'] W fun e w' => e = .returned (.bool true) ∧ Below W.heap.size W w') := Lib.hid fun W hB => by
    have := spEq_any A A' x.bl.length x.bl.length c c' x.bl x.bl W hn (hb.below hB) (hb'.below hB)
    rwa [decide_eq_true rfl] at this
  have HB0 := Lib.hid hb; have HB1 := Lib.hid hb'; clear hb hb'
  have Hx := Lib.hid (block_alloc (alloc_new w (.cells #[.int .i64 x.fp, .int .i64 x.tp, .int .i64 x.sq, .int .i64 x.ack, .bool x.syn, .bool x.fin, .bool x.rst, .bool x.ha, .int .i64 x.win, .int .i64 x.mss, .bool x.sacks, .slice A x.bl.length c, .string x.s] 24)) (.cells #[.int .i64 x.fp, .int .i64 x.tp, .int .i64 x.sq, .int .i64 x.ack, .bool x.syn, .bool x.fin, .bool x.rst, .bool x.ha, .int .i64 x.win, .int .i64 x.mss, .bool x.sacks, .slice A' x.bl.length c', .string x.s] 24))
  have Hy := Lib.hid (alloc_new' (w.alloc (.cells #[.int .i64 x.fp, .int .i64 x.tp, .int .i64 x.sq, .int .i64 x.ack, .bool x.syn, .bool x.fin, .bool x.rst, .bool x.ha, .int .i64 x.win, .int .i64 x.mss, .bool x.sacks, .slice A x.bl.length c, .string x.s] 24)) (.cells #[.int .i64 x.fp, .int .i64 x.tp, .int .i64 x.sq, .int .i64 x.ack, .bool x.syn, .bool x.fin, .bool x.rst, .bool x.ha, .int .i64 x.win, .int .i64 x.mss, .bool x.sacks, .slice A' x.bl.length c', .string x.s] 24) (w.heap.size + 1) (by simp))
  have HB := below_alloc (o := .cells #[.int .i64 x.fp, .int .i64 x.tp, .int .i64 x.sq, .int .i64 x.ack, .bool x.syn, .bool x.fin, .bool x.rst, .bool x.ha, .int .i64 x.win, .int .i64 x.mss, .bool x.sacks, .slice A' x.bl.length c', .string x.s] 24) (below_alloc (o := .cells #[.int .i64 x.fp, .int .i64 x.tp, .int .i64 x.sq, .int .i64 x.ack, .bool x.syn, .bool x.fin, .bool x.rst, .bool x.ha, .int .i64 x.win, .int .i64 x.mss, .bool x.sacks, .slice A x.bl.length c, .string x.s] 24) (Below.refl w.heap.size w))
  have he := fun W => flags_eq x.syn x.fin x.rst x.ha x.sacks W
  go_enter Tryd.func28, Tryd.ntmps28
  go_wp2_with fail
  go_region_held3 (fun w' => w'.cell? ⟨w.heap.size, 0, none⟩ = some (.int .i64 x.fp) ∧ w'.cell? ⟨w.heap.size, 1, none⟩ = some (.int .i64 x.tp) ∧ w'.cell? ⟨w.heap.size, 2, none⟩ = some (.int .i64 x.sq) ∧ w'.cell? ⟨w.heap.size, 3, none⟩ = some (.int .i64 x.ack) ∧ w'.cell? ⟨w.heap.size, 4, none⟩ = some (.bool x.syn) ∧ w'.cell? ⟨w.heap.size, 5, none⟩ = some (.bool x.fin) ∧ w'.cell? ⟨w.heap.size, 6, none⟩ = some (.bool x.rst) ∧ w'.cell? ⟨w.heap.size, 7, none⟩ = some (.bool x.ha) ∧ w'.cell? ⟨w.heap.size, 8, none⟩ = some (.int .i64 x.win) ∧ w'.cell? ⟨w.heap.size, 9, none⟩ = some (.int .i64 x.mss) ∧ w'.cell? ⟨w.heap.size, 10, none⟩ = some (.bool x.sacks) ∧ w'.cell? ⟨w.heap.size, 11, none⟩ = some (.slice A x.bl.length c) ∧ w'.cell? ⟨w.heap.size, 12, none⟩ = some (.string x.s) ∧ w'.cell? ⟨w.heap.size + 1, 0, none⟩ = some (.int .i64 x.fp) ∧ w'.cell? ⟨w.heap.size + 1, 1, none⟩ = some (.int .i64 x.tp) ∧ w'.cell? ⟨w.heap.size + 1, 2, none⟩ = some (.int .i64 x.sq) ∧ w'.cell? ⟨w.heap.size + 1, 3, none⟩ = some (.int .i64 x.ack) ∧ w'.cell? ⟨w.heap.size + 1, 4, none⟩ = some (.bool x.syn) ∧ w'.cell? ⟨w.heap.size + 1, 5, none⟩ = some (.bool x.fin) ∧ w'.cell? ⟨w.heap.size + 1, 6, none⟩ = some (.bool x.rst) ∧ w'.cell? ⟨w.heap.size + 1, 7, none⟩ = some (.bool x.ha) ∧ w'.cell? ⟨w.heap.size + 1, 8, none⟩ = some (.int .i64 x.win) ∧ w'.cell? ⟨w.heap.size + 1, 9, none⟩ = some (.int .i64 x.mss) ∧ w'.cell? ⟨w.heap.size + 1, 10, none⟩ = some (.bool x.sacks) ∧ w'.cell? ⟨w.heap.size + 1, 11, none⟩ = some (.slice A' x.bl.length c') ∧ w'.cell? ⟨w.heap.size + 1, 12, none⟩ = some (.string x.s)) (first | exact ⟨(cell_of_block Hx.out rfl).1, (cell_of_block Hx.out rfl).1, (cell_of_block Hx.out rfl).1, (cell_of_block Hx.out rfl).1, (cell_of_block Hx.out rfl).1, (cell_of_block Hx.out rfl).1, (cell_of_block Hx.out rfl).1, (cell_of_block Hx.out rfl).1, (cell_of_block Hx.out rfl).1, (cell_of_block Hx.out rfl).1, (cell_of_block Hx.out rfl).1, (cell_of_block Hx.out rfl).1, (cell_of_block Hx.out rfl).1, (cell_of_block Hy.out rfl).1, (cell_of_block Hy.out rfl).1, (cell_of_block Hy.out rfl).1, (cell_of_block Hy.out rfl).1, (cell_of_block Hy.out rfl).1, (cell_of_block Hy.out rfl).1, (cell_of_block Hy.out rfl).1, (cell_of_block Hy.out rfl).1, (cell_of_block Hy.out rfl).1, (cell_of_block Hy.out rfl).1, (cell_of_block Hy.out rfl).1, (cell_of_block Hy.out rfl).1, (cell_of_block Hy.out rfl).1⟩ | (go_split_ands; exact ⟨by assumption, by assumption, by assumption, by assumption, by assumption, by assumption, by assumption, by assumption, by assumption, by assumption, by assumption, by assumption, by assumption, by assumption, by assumption, by assumption, by assumption, by assumption, by assumption, by assumption, by assumption, by assumption, by assumption, by assumption, by assumption, by assumption⟩) | (go_split_ands; exact ⟨bcell (by assumption) (by assumption), bcell (by assumption) (by assumption), bcell (by assumption) (by assumption), bcell (by assumption) (by assumption), bcell (by assumption) (by assumption), bcell (by assumption) (by assumption), bcell (by assumption) (by assumption), bcell (by assumption) (by assumption), bcell (by assumption) (by assumption), bcell (by assumption) (by assumption), bcell (by assumption) (by assumption), bcell (by assumption) (by assumption), bcell (by assumption) (by assumption), bcell (by assumption) (by assumption), bcell (by assumption) (by assumption), bcell (by assumption) (by assumption), bcell (by assumption) (by assumption), bcell (by assumption) (by assumption), bcell (by assumption) (by assumption), bcell (by assumption) (by assumption), bcell (by assumption) (by assumption), bcell (by assumption) (by assumption), bcell (by assumption) (by assumption), bcell (by assumption) (by assumption), bcell (by assumption) (by assumption), bcell (by assumption) (by assumption)⟩))
    (first | (go_at_call 64; have hq := hbA; clear hq; refine (flags_any _ _ _ _ _ _ _ _ _ _ _ _ _ _ _ _).mono ?_; rintro e w2 ⟨rfl, hbB⟩) | (go_at_call 64; refine (flags_any _ _ _ _ _ _ _ _ _ _ _ _ _ _ _ _).mono ?_; rintro e w1 ⟨rfl, hbA⟩) | (go_at_call 65; refine (HE.out _ (below_call (below_call HB.drew hbA) hbB)).mono ?_; rintro e w3 ⟨rfl, hb3⟩))
  all_goals
    go_wp2_with fail
    go_ret
    exact ⟨rfl, below_call (below_call (below_call HB.drew hbA) hbB) hb3⟩

set_option maxRecDepth 100000 in
set_option maxHeartbeats 4000000 in
theorem same_seq (x y : Seg) (A A' : Option Addr) (c c' : Nat) (w : World) (h0 : x.fp = y.fp) (h1 : x.tp = y.tp) (h2 : x.sq ≠ y.sq) (hb : Bks w A x.bl.length x.bl) (hb' : Bks w A' y.bl.length y.bl) :
    Calls Tryd.prog 28 #[.agg #[.int .i64 x.fp, .int .i64 x.tp, .int .i64 x.sq, .int .i64 x.ack, .bool x.syn, .bool x.fin, .bool x.rst, .bool x.ha, .int .i64 x.win, .int .i64 x.mss, .bool x.sacks, .slice A x.bl.length c, .string x.s], .agg #[.int .i64 y.fp, .int .i64 y.tp, .int .i64 y.sq, .int .i64 y.ack, .bool y.syn, .bool y.fin, .bool y.rst, .bool y.ha, .int .i64 y.win, .int .i64 y.mss, .bool y.sacks, .slice A' y.bl.length c', .string y.s]] w fun e w' => e = .returned (.bool false) ∧ Below w.heap.size w w' := by
  have HB0 := Lib.hid hb; have HB1 := Lib.hid hb'; clear hb hb'
  have Hx := Lib.hid (block_alloc (alloc_new w (.cells #[.int .i64 x.fp, .int .i64 x.tp, .int .i64 x.sq, .int .i64 x.ack, .bool x.syn, .bool x.fin, .bool x.rst, .bool x.ha, .int .i64 x.win, .int .i64 x.mss, .bool x.sacks, .slice A x.bl.length c, .string x.s] 24)) (.cells #[.int .i64 y.fp, .int .i64 y.tp, .int .i64 y.sq, .int .i64 y.ack, .bool y.syn, .bool y.fin, .bool y.rst, .bool y.ha, .int .i64 y.win, .int .i64 y.mss, .bool y.sacks, .slice A' y.bl.length c', .string y.s] 24))
  have Hy := Lib.hid (alloc_new' (w.alloc (.cells #[.int .i64 x.fp, .int .i64 x.tp, .int .i64 x.sq, .int .i64 x.ack, .bool x.syn, .bool x.fin, .bool x.rst, .bool x.ha, .int .i64 x.win, .int .i64 x.mss, .bool x.sacks, .slice A x.bl.length c, .string x.s] 24)) (.cells #[.int .i64 y.fp, .int .i64 y.tp, .int .i64 y.sq, .int .i64 y.ack, .bool y.syn, .bool y.fin, .bool y.rst, .bool y.ha, .int .i64 y.win, .int .i64 y.mss, .bool y.sacks, .slice A' y.bl.length c', .string y.s] 24) (w.heap.size + 1) (by simp))
  have HB := below_alloc (o := .cells #[.int .i64 y.fp, .int .i64 y.tp, .int .i64 y.sq, .int .i64 y.ack, .bool y.syn, .bool y.fin, .bool y.rst, .bool y.ha, .int .i64 y.win, .int .i64 y.mss, .bool y.sacks, .slice A' y.bl.length c', .string y.s] 24) (below_alloc (o := .cells #[.int .i64 x.fp, .int .i64 x.tp, .int .i64 x.sq, .int .i64 x.ack, .bool x.syn, .bool x.fin, .bool x.rst, .bool x.ha, .int .i64 x.win, .int .i64 x.mss, .bool x.sacks, .slice A x.bl.length c, .string x.s] 24) (Below.refl w.heap.size w))
  have q0 : (x.fp == y.fp) = true := beq_iff_eq.2 h0
  have q1 : (x.tp == y.tp) = true := beq_iff_eq.2 h1
  have q2 : (x.sq == y.sq) = false := beq_eq_false_iff_ne.2 h2
  clear h0 h1 h2
  have qx0 := (cell_of_block (k := 0) Hx.out rfl).1; have qy0 := (cell_of_block (k := 0) Hy.out rfl).1
  have qx1 := (cell_of_block (k := 1) Hx.out rfl).1; have qy1 := (cell_of_block (k := 1) Hy.out rfl).1
  have qx2 := (cell_of_block (k := 2) Hx.out rfl).1; have qy2 := (cell_of_block (k := 2) Hy.out rfl).1
  go_enter Tryd.func28, Tryd.ntmps28
  go_wp2_with fail
  go_quiet (fail)
  go_wp2_with fail
  go_ret
  exact ⟨rfl, below_drewN HB _⟩
end Go.Proofs.YtmgjcjacoegocaaDoor.Sg
