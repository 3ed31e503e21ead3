/-
  segment.Same at two segments that differ in a number, a flag, the window or the option.
-/
import Derived.Test.YtkinlmanimdlcaaSgSame2
import Derived.Test.YtkinlmanimdlcaaHeld
namespace Go.Proofs.Ytkinlmanimdlcaa.Sg
open Go.RowKit Go.Proofs.Ytkinlmanimdlcaa.Wire

theorem flags_eq2 (a b c d e a' b' c' d' e' : Bool) (h : a = a' ∧ b = b' ∧ c = c' ∧ d = d' ∧ e = e') (W : World) : (binOp .eql 60 (.agg #[.bool a, .bool b, .bool c, .bool d, .bool e]) (.agg #[.bool a', .bool b', .bool c', .bool d', .bool e'])).run Try.prog W = .ok (.bool true) W := by
  obtain ⟨rfl, rfl, rfl, rfl, rfl⟩ := h
  exact flags_eq a b c d e W
theorem flags_ne (a b c d e a' b' c' d' e' : Bool) (h : ¬ (a = a' ∧ b = b' ∧ c = c' ∧ d = d' ∧ e = e')) (W : World) : (binOp .eql 60 (.agg #[.bool a, .bool b, .bool c, .bool d, .bool e]) (.agg #[.bool a', .bool b', .bool c', .bool d', .bool e'])).run Try.prog W = .ok (.bool false) W := by
  cases a <;> cases b <;> cases c <;> cases d <;> cases e <;> cases a' <;> cases b' <;> cases c' <;> cases d' <;> cases e' <;> first | exact absurd ⟨rfl, rfl, rfl, rfl, rfl⟩ h | kernel_rfl
set_option maxRecDepth 100000 in
set_option maxHeartbeats 4000000 in
theorem same_c0 (x y : Seg) (A A' : Option Addr) (c c' : Nat) (w : World) (hn : x.bl.length ≤ 9223372036854775807)  (h0 : ¬ (x.fp = y.fp)) (hb : Bks w A x.bl.length x.bl) (hb' : Bks w A' y.bl.length y.bl) :
    Calls Try.prog 18 #[.agg #[.int .i64 x.fp, .int .i64 x.tp, .int .i64 x.sq, .int .i64 x.ack, .bool x.syn, .bool x.fin, .bool x.rst, .bool x.ha, .int .i64 x.win, .int .i64 x.mss, .bool x.sacks, .slice A x.bl.length c, .string x.s], .agg #[.int .i64 y.fp, .int .i64 y.tp, .int .i64 y.sq, .int .i64 y.ack, .bool y.syn, .bool y.fin, .bool y.rst, .bool y.ha, .int .i64 y.win, .int .i64 y.mss, .bool y.sacks, .slice A' y.bl.length c', .string y.s]] w fun e w' => e = .returned (.bool false) ∧ Below w.heap.size w w' := by
  have _u := hb; have _v := hb'; have _t := hn; clear _u _v _t hb hb' hn
  have Hx := Lib.hid (block_alloc (alloc_new w (.cells #[.int .i64 x.fp, .int .i64 x.tp, .int .i64 x.sq, .int .i64 x.ack, .bool x.syn, .bool x.fin, .bool x.rst, .bool x.ha, .int .i64 x.win, .int .i64 x.mss, .bool x.sacks, .slice A x.bl.length c, .string x.s] 24)) (.cells #[.int .i64 y.fp, .int .i64 y.tp, .int .i64 y.sq, .int .i64 y.ack, .bool y.syn, .bool y.fin, .bool y.rst, .bool y.ha, .int .i64 y.win, .int .i64 y.mss, .bool y.sacks, .slice A' y.bl.length c', .string y.s] 24))
  have Hy := Lib.hid (alloc_new' (w.alloc (.cells #[.int .i64 x.fp, .int .i64 x.tp, .int .i64 x.sq, .int .i64 x.ack, .bool x.syn, .bool x.fin, .bool x.rst, .bool x.ha, .int .i64 x.win, .int .i64 x.mss, .bool x.sacks, .slice A x.bl.length c, .string x.s] 24)) (.cells #[.int .i64 y.fp, .int .i64 y.tp, .int .i64 y.sq, .int .i64 y.ack, .bool y.syn, .bool y.fin, .bool y.rst, .bool y.ha, .int .i64 y.win, .int .i64 y.mss, .bool y.sacks, .slice A' y.bl.length c', .string y.s] 24) (w.heap.size + 1) (by simp))
  have HB := below_alloc (o := .cells #[.int .i64 y.fp, .int .i64 y.tp, .int .i64 y.sq, .int .i64 y.ack, .bool y.syn, .bool y.fin, .bool y.rst, .bool y.ha, .int .i64 y.win, .int .i64 y.mss, .bool y.sacks, .slice A' y.bl.length c', .string y.s] 24) (below_alloc (o := .cells #[.int .i64 x.fp, .int .i64 x.tp, .int .i64 x.sq, .int .i64 x.ack, .bool x.syn, .bool x.fin, .bool x.rst, .bool x.ha, .int .i64 x.win, .int .i64 x.mss, .bool x.sacks, .slice A x.bl.length c, .string x.s] 24) (Below.refl w.heap.size w))
  have q0 : (x.fp == y.fp) = false := beq_eq_false_iff_ne.2 h0
  clear h0
  have qx0 := (cell_of_block (k := 0) Hx.out rfl).1; have qy0 := (cell_of_block (k := 0) Hy.out rfl).1
  go_enter Try.func18, Try.ntmps18
  go_wp2_with fail
  go_quiet (fail)
  go_wp2_with fail
  go_ret
  exact ⟨rfl, below_drewN HB _⟩
set_option maxRecDepth 100000 in
set_option maxHeartbeats 4000000 in
theorem same_c1 (x y : Seg) (A A' : Option Addr) (c c' : Nat) (w : World) (hn : x.bl.length ≤ 9223372036854775807) (h0 : x.fp = y.fp) (h1 : ¬ (x.tp = y.tp)) (hb : Bks w A x.bl.length x.bl) (hb' : Bks w A' y.bl.length y.bl) :
    Calls Try.prog 18 #[.agg #[.int .i64 x.fp, .int .i64 x.tp, .int .i64 x.sq, .int .i64 x.ack, .bool x.syn, .bool x.fin, .bool x.rst, .bool x.ha, .int .i64 x.win, .int .i64 x.mss, .bool x.sacks, .slice A x.bl.length c, .string x.s], .agg #[.int .i64 y.fp, .int .i64 y.tp, .int .i64 y.sq, .int .i64 y.ack, .bool y.syn, .bool y.fin, .bool y.rst, .bool y.ha, .int .i64 y.win, .int .i64 y.mss, .bool y.sacks, .slice A' y.bl.length c', .string y.s]] w fun e w' => e = .returned (.bool false) ∧ Below w.heap.size w w' := by
  have _u := hb; have _v := hb'; have _t := hn; clear _u _v _t hb hb' hn
  have Hx := Lib.hid (block_alloc (alloc_new w (.cells #[.int .i64 x.fp, .int .i64 x.tp, .int .i64 x.sq, .int .i64 x.ack, .bool x.syn, .bool x.fin, .bool x.rst, .bool x.ha, .int .i64 x.win, .int .i64 x.mss, .bool x.sacks, .slice A x.bl.length c, .string x.s] 24)) (.cells #[.int .i64 y.fp, .int .i64 y.tp, .int .i64 y.sq, .int .i64 y.ack, .bool y.syn, .bool y.fin, .bool y.rst, .bool y.ha, .int .i64 y.win, .int .i64 y.mss, .bool y.sacks, .slice A' y.bl.length c', .string y.s] 24))
  have Hy := Lib.hid (alloc_new' (w.alloc (.cells #[.int .i64 x.fp, .int .i64 x.tp, .int .i64 x.sq, .int .i64 x.ack, .bool x.syn, .bool x.fin, .bool x.rst, .bool x.ha, .int .i64 x.win, .int .i64 x.mss, .bool x.sacks, .slice A x.bl.length c, .string x.s] 24)) (.cells #[.int .i64 y.fp, .int .i64 y.tp, .int .i64 y.sq, .int .i64 y.ack, .bool y.syn, .bool y.fin, .bool y.rst, .bool y.ha, .int .i64 y.win, .int .i64 y.mss, .bool y.sacks, .slice A' y.bl.length c', .string y.s] 24) (w.heap.size + 1) (by simp))
  have HB := below_alloc (o := .cells #[.int .i64 y.fp, .int .i64 y.tp, .int .i64 y.sq, .int .i64 y.ack, .bool y.syn, .bool y.fin, .bool y.rst, .bool y.ha, .int .i64 y.win, .int .i64 y.mss, .bool y.sacks, .slice A' y.bl.length c', .string y.s] 24) (below_alloc (o := .cells #[.int .i64 x.fp, .int .i64 x.tp, .int .i64 x.sq, .int .i64 x.ack, .bool x.syn, .bool x.fin, .bool x.rst, .bool x.ha, .int .i64 x.win, .int .i64 x.mss, .bool x.sacks, .slice A x.bl.length c, .string x.s] 24) (Below.refl w.heap.size w))
  have q0 : (x.fp == y.fp) = true := beq_iff_eq.2 h0
  have q1 : (x.tp == y.tp) = false := beq_eq_false_iff_ne.2 h1
  clear h0 h1
  have qx0 := (cell_of_block (k := 0) Hx.out rfl).1; have qy0 := (cell_of_block (k := 0) Hy.out rfl).1
  have qx1 := (cell_of_block (k := 1) Hx.out rfl).1; have qy1 := (cell_of_block (k := 1) Hy.out rfl).1
  go_enter Try.func18, Try.ntmps18
  go_wp2_with fail
  go_quiet (fail)
  go_wp2_with fail
  go_ret
  exact ⟨rfl, below_drewN HB _⟩
set_option maxRecDepth 100000 in
set_option maxHeartbeats 4000000 in
theorem same_c2 (x y : Seg) (A A' : Option Addr) (c c' : Nat) (w : World) (hn : x.bl.length ≤ 9223372036854775807) (h0 : x.fp = y.fp) (h1 : x.tp = y.tp) (h2 : ¬ (x.sq = y.sq)) (hb : Bks w A x.bl.length x.bl) (hb' : Bks w A' y.bl.length y.bl) :
    Calls Try.prog 18 #[.agg #[.int .i64 x.fp, .int .i64 x.tp, .int .i64 x.sq, .int .i64 x.ack, .bool x.syn, .bool x.fin, .bool x.rst, .bool x.ha, .int .i64 x.win, .int .i64 x.mss, .bool x.sacks, .slice A x.bl.length c, .string x.s], .agg #[.int .i64 y.fp, .int .i64 y.tp, .int .i64 y.sq, .int .i64 y.ack, .bool y.syn, .bool y.fin, .bool y.rst, .bool y.ha, .int .i64 y.win, .int .i64 y.mss, .bool y.sacks, .slice A' y.bl.length c', .string y.s]] w fun e w' => e = .returned (.bool false) ∧ Below w.heap.size w w' := by
  have _u := hb; have _v := hb'; have _t := hn; clear _u _v _t hb hb' hn
  have Hx := Lib.hid (block_alloc (alloc_new w (.cells #[.int .i64 x.fp, .int .i64 x.tp, .int .i64 x.sq, .int .i64 x.ack, .bool x.syn, .bool x.fin, .bool x.rst, .bool x.ha, .int .i64 x.win, .int .i64 x.mss, .bool x.sacks, .slice A x.bl.length c, .string x.s] 24)) (.cells #[.int .i64 y.fp, .int .i64 y.tp, .int .i64 y.sq, .int .i64 y.ack, .bool y.syn, .bool y.fin, .bool y.rst, .bool y.ha, .int .i64 y.win, .int .i64 y.mss, .bool y.sacks, .slice A' y.bl.length c', .string y.s] 24))
  have Hy := Lib.hid (alloc_new' (w.alloc (.cells #[.int .i64 x.fp, .int .i64 x.tp, .int .i64 x.sq, .int .i64 x.ack, .bool x.syn, .bool x.fin, .bool x.rst, .bool x.ha, .int .i64 x.win, .int .i64 x.mss, .bool x.sacks, .slice A x.bl.length c, .string x.s] 24)) (.cells #[.int .i64 y.fp, .int .i64 y.tp, .int .i64 y.sq, .int .i64 y.ack, .bool y.syn, .bool y.fin, .bool y.rst, .bool y.ha, .int .i64 y.win, .int .i64 y.mss, .bool y.sacks, .slice A' y.bl.length c', .string y.s] 24) (w.heap.size + 1) (by simp))
  have HB := below_alloc (o := .cells #[.int .i64 y.fp, .int .i64 y.tp, .int .i64 y.sq, .int .i64 y.ack, .bool y.syn, .bool y.fin, .bool y.rst, .bool y.ha, .int .i64 y.win, .int .i64 y.mss, .bool y.sacks, .slice A' y.bl.length c', .string y.s] 24) (below_alloc (o := .cells #[.int .i64 x.fp, .int .i64 x.tp, .int .i64 x.sq, .int .i64 x.ack, .bool x.syn, .bool x.fin, .bool x.rst, .bool x.ha, .int .i64 x.win, .int .i64 x.mss, .bool x.sacks, .slice A x.bl.length c, .string x.s] 24) (Below.refl w.heap.size w))
  have q0 : (x.fp == y.fp) = true := beq_iff_eq.2 h0
  have q1 : (x.tp == y.tp) = true := beq_iff_eq.2 h1
  have q2 : (x.sq == y.sq) = false := beq_eq_false_iff_ne.2 h2
  clear h0 h1 h2
  have qx0 := (cell_of_block (k := 0) Hx.out rfl).1; have qy0 := (cell_of_block (k := 0) Hy.out rfl).1
  have qx1 := (cell_of_block (k := 1) Hx.out rfl).1; have qy1 := (cell_of_block (k := 1) Hy.out rfl).1
  have qx2 := (cell_of_block (k := 2) Hx.out rfl).1; have qy2 := (cell_of_block (k := 2) Hy.out rfl).1
  go_enter Try.func18, Try.ntmps18
  go_wp2_with fail
  go_quiet (fail)
  go_wp2_with fail
  go_ret
  exact ⟨rfl, below_drewN HB _⟩
set_option maxRecDepth 100000 in
set_option maxHeartbeats 4000000 in
theorem same_c3 (x y : Seg) (A A' : Option Addr) (c c' : Nat) (w : World) (hn : x.bl.length ≤ 9223372036854775807) (h0 : x.fp = y.fp) (h1 : x.tp = y.tp) (h2 : x.sq = y.sq) (h3 : ¬ (x.ack = y.ack)) (hb : Bks w A x.bl.length x.bl) (hb' : Bks w A' y.bl.length y.bl) :
    Calls Try.prog 18 #[.agg #[.int .i64 x.fp, .int .i64 x.tp, .int .i64 x.sq, .int .i64 x.ack, .bool x.syn, .bool x.fin, .bool x.rst, .bool x.ha, .int .i64 x.win, .int .i64 x.mss, .bool x.sacks, .slice A x.bl.length c, .string x.s], .agg #[.int .i64 y.fp, .int .i64 y.tp, .int .i64 y.sq, .int .i64 y.ack, .bool y.syn, .bool y.fin, .bool y.rst, .bool y.ha, .int .i64 y.win, .int .i64 y.mss, .bool y.sacks, .slice A' y.bl.length c', .string y.s]] w fun e w' => e = .returned (.bool false) ∧ Below w.heap.size w w' := by
  have _u := hb; have _v := hb'; have _t := hn; clear _u _v _t hb hb' hn
  have Hx := Lib.hid (block_alloc (alloc_new w (.cells #[.int .i64 x.fp, .int .i64 x.tp, .int .i64 x.sq, .int .i64 x.ack, .bool x.syn, .bool x.fin, .bool x.rst, .bool x.ha, .int .i64 x.win, .int .i64 x.mss, .bool x.sacks, .slice A x.bl.length c, .string x.s] 24)) (.cells #[.int .i64 y.fp, .int .i64 y.tp, .int .i64 y.sq, .int .i64 y.ack, .bool y.syn, .bool y.fin, .bool y.rst, .bool y.ha, .int .i64 y.win, .int .i64 y.mss, .bool y.sacks, .slice A' y.bl.length c', .string y.s] 24))
  have Hy := Lib.hid (alloc_new' (w.alloc (.cells #[.int .i64 x.fp, .int .i64 x.tp, .int .i64 x.sq, .int .i64 x.ack, .bool x.syn, .bool x.fin, .bool x.rst, .bool x.ha, .int .i64 x.win, .int .i64 x.mss, .bool x.sacks, .slice A x.bl.length c, .string x.s] 24)) (.cells #[.int .i64 y.fp, .int .i64 y.tp, .int .i64 y.sq, .int .i64 y.ack, .bool y.syn, .bool y.fin, .bool y.rst, .bool y.ha, .int .i64 y.win, .int .i64 y.mss, .bool y.sacks, .slice A' y.bl.length c', .string y.s] 24) (w.heap.size + 1) (by simp))
  have HB := below_alloc (o := .cells #[.int .i64 y.fp, .int .i64 y.tp, .int .i64 y.sq, .int .i64 y.ack, .bool y.syn, .bool y.fin, .bool y.rst, .bool y.ha, .int .i64 y.win, .int .i64 y.mss, .bool y.sacks, .slice A' y.bl.length c', .string y.s] 24) (below_alloc (o := .cells #[.int .i64 x.fp, .int .i64 x.tp, .int .i64 x.sq, .int .i64 x.ack, .bool x.syn, .bool x.fin, .bool x.rst, .bool x.ha, .int .i64 x.win, .int .i64 x.mss, .bool x.sacks, .slice A x.bl.length c, .string x.s] 24) (Below.refl w.heap.size w))
  have q0 : (x.fp == y.fp) = true := beq_iff_eq.2 h0
  have q1 : (x.tp == y.tp) = true := beq_iff_eq.2 h1
  have q2 : (x.sq == y.sq) = true := beq_iff_eq.2 h2
  have q3 : (x.ack == y.ack) = false := beq_eq_false_iff_ne.2 h3
  clear h0 h1 h2 h3
  have qx0 := (cell_of_block (k := 0) Hx.out rfl).1; have qy0 := (cell_of_block (k := 0) Hy.out rfl).1
  have qx1 := (cell_of_block (k := 1) Hx.out rfl).1; have qy1 := (cell_of_block (k := 1) Hy.out rfl).1
  have qx2 := (cell_of_block (k := 2) Hx.out rfl).1; have qy2 := (cell_of_block (k := 2) Hy.out rfl).1
  have qx3 := (cell_of_block (k := 3) Hx.out rfl).1; have qy3 := (cell_of_block (k := 3) Hy.out rfl).1
  go_enter Try.func18, Try.ntmps18
  go_wp2_with fail
  go_quiet (fail)
  go_wp2_with fail
  go_ret
  exact ⟨rfl, below_drewN HB _⟩
set_option maxRecDepth 100000 in
set_option maxHeartbeats 4000000 in
theorem same_c4 (x y : Seg) (A A' : Option Addr) (c c' : Nat) (w : World) (hn : x.bl.length ≤ 9223372036854775807) (h0 : x.fp = y.fp) (h1 : x.tp = y.tp) (h2 : x.sq = y.sq) (h3 : x.ack = y.ack) (h4 : ¬ (x.syn = y.syn ∧ x.fin = y.fin ∧ x.rst = y.rst ∧ x.ha = y.ha ∧ x.sacks = y.sacks)) (hb : Bks w A x.bl.length x.bl) (hb' : Bks w A' y.bl.length y.bl) :
    Calls Try.prog 18 #[.agg #[.int .i64 x.fp, .int .i64 x.tp, .int .i64 x.sq, .int .i64 x.ack, .bool x.syn, .bool x.fin, .bool x.rst, .bool x.ha, .int .i64 x.win, .int .i64 x.mss, .bool x.sacks, .slice A x.bl.length c, .string x.s], .agg #[.int .i64 y.fp, .int .i64 y.tp, .int .i64 y.sq, .int .i64 y.ack, .bool y.syn, .bool y.fin, .bool y.rst, .bool y.ha, .int .i64 y.win, .int .i64 y.mss, .bool y.sacks, .slice A' y.bl.length c', .string y.s]] w fun e w' => e = .returned (.bool false) ∧ Below w.heap.size w w' := by
  have _u := hb; have _v := hb'; have _t := hn; clear _u _v _t hb hb' hn
  have Hx := Lib.hid (block_alloc (alloc_new w (.cells #[.int .i64 x.fp, .int .i64 x.tp, .int .i64 x.sq, .int .i64 x.ack, .bool x.syn, .bool x.fin, .bool x.rst, .bool x.ha, .int .i64 x.win, .int .i64 x.mss, .bool x.sacks, .slice A x.bl.length c, .string x.s] 24)) (.cells #[.int .i64 y.fp, .int .i64 y.tp, .int .i64 y.sq, .int .i64 y.ack, .bool y.syn, .bool y.fin, .bool y.rst, .bool y.ha, .int .i64 y.win, .int .i64 y.mss, .bool y.sacks, .slice A' y.bl.length c', .string y.s] 24))
  have Hy := Lib.hid (alloc_new' (w.alloc (.cells #[.int .i64 x.fp, .int .i64 x.tp, .int .i64 x.sq, .int .i64 x.ack, .bool x.syn, .bool x.fin, .bool x.rst, .bool x.ha, .int .i64 x.win, .int .i64 x.mss, .bool x.sacks, .slice A x.bl.length c, .string x.s] 24)) (.cells #[.int .i64 y.fp, .int .i64 y.tp, .int .i64 y.sq, .int .i64 y.ack, .bool y.syn, .bool y.fin, .bool y.rst, .bool y.ha, .int .i64 y.win, .int .i64 y.mss, .bool y.sacks, .slice A' y.bl.length c', .string y.s] 24) (w.heap.size + 1) (by simp))
  have HB := below_alloc (o := .cells #[.int .i64 y.fp, .int .i64 y.tp, .int .i64 y.sq, .int .i64 y.ack, .bool y.syn, .bool y.fin, .bool y.rst, .bool y.ha, .int .i64 y.win, .int .i64 y.mss, .bool y.sacks, .slice A' y.bl.length c', .string y.s] 24) (below_alloc (o := .cells #[.int .i64 x.fp, .int .i64 x.tp, .int .i64 x.sq, .int .i64 x.ack, .bool x.syn, .bool x.fin, .bool x.rst, .bool x.ha, .int .i64 x.win, .int .i64 x.mss, .bool x.sacks, .slice A x.bl.length c, .string x.s] 24) (Below.refl w.heap.size w))
  have q0 : (x.fp == y.fp) = true := beq_iff_eq.2 h0
  have q1 : (x.tp == y.tp) = true := beq_iff_eq.2 h1
  have q2 : (x.sq == y.sq) = true := beq_iff_eq.2 h2
  have q3 : (x.ack == y.ack) = true := beq_iff_eq.2 h3
  have he : ∀ W : World, (binOp .eql 60 (.agg #[.bool x.syn, .bool x.fin, .bool x.rst, .bool x.ha, .bool x.sacks]) (.agg #[.bool y.syn, .bool y.fin, .bool y.rst, .bool y.ha, .bool y.sacks])).run Try.prog W = .ok (.bool false) W := fun W => flags_ne _ _ _ _ _ _ _ _ _ _ h4 W
  clear h0 h1 h2 h3 h4
  go_enter Try.func18, Try.ntmps18
  go_wp2_with fail
  generalize ((w.alloc (.cells #[.int .i64 x.fp, .int .i64 x.tp, .int .i64 x.sq, .int .i64 x.ack, .bool x.syn, .bool x.fin, .bool x.rst, .bool x.ha, .int .i64 x.win, .int .i64 x.mss, .bool x.sacks, .slice A x.bl.length c, .string x.s] 24)).alloc (.cells #[.int .i64 y.fp, .int .i64 y.tp, .int .i64 y.sq, .int .i64 y.ack, .bool y.syn, .bool y.fin, .bool y.rst, .bool y.ha, .int .i64 y.win, .int .i64 y.mss, .bool y.sacks, .slice A' y.bl.length c', .string y.s] 24)) = w0 at *
  have HR := Below.refl w0.heap.size w0
  have gx0 : Hid (w0.cell? ⟨w.heap.size, 0, none⟩ = some (.int .i64 x.fp)) := Lib.hid (cell_of_block (k := 0) Hx.out rfl).1
  have gx1 : Hid (w0.cell? ⟨w.heap.size, 1, none⟩ = some (.int .i64 x.tp)) := Lib.hid (cell_of_block (k := 1) Hx.out rfl).1
  have gx2 : Hid (w0.cell? ⟨w.heap.size, 2, none⟩ = some (.int .i64 x.sq)) := Lib.hid (cell_of_block (k := 2) Hx.out rfl).1
  have gx3 : Hid (w0.cell? ⟨w.heap.size, 3, none⟩ = some (.int .i64 x.ack)) := Lib.hid (cell_of_block (k := 3) Hx.out rfl).1
  have gx4 : Hid (w0.cell? ⟨w.heap.size, 4, none⟩ = some (.bool x.syn)) := Lib.hid (cell_of_block (k := 4) Hx.out rfl).1
  have gx5 : Hid (w0.cell? ⟨w.heap.size, 5, none⟩ = some (.bool x.fin)) := Lib.hid (cell_of_block (k := 5) Hx.out rfl).1
  have gx6 : Hid (w0.cell? ⟨w.heap.size, 6, none⟩ = some (.bool x.rst)) := Lib.hid (cell_of_block (k := 6) Hx.out rfl).1
  have gx7 : Hid (w0.cell? ⟨w.heap.size, 7, none⟩ = some (.bool x.ha)) := Lib.hid (cell_of_block (k := 7) Hx.out rfl).1
  have gx8 : Hid (w0.cell? ⟨w.heap.size, 8, none⟩ = some (.int .i64 x.win)) := Lib.hid (cell_of_block (k := 8) Hx.out rfl).1
  have gx9 : Hid (w0.cell? ⟨w.heap.size, 9, none⟩ = some (.int .i64 x.mss)) := Lib.hid (cell_of_block (k := 9) Hx.out rfl).1
  have gx10 : Hid (w0.cell? ⟨w.heap.size, 10, none⟩ = some (.bool x.sacks)) := Lib.hid (cell_of_block (k := 10) Hx.out rfl).1
  have gx11 : Hid (w0.cell? ⟨w.heap.size, 11, none⟩ = some (.slice A x.bl.length c)) := Lib.hid (cell_of_block (k := 11) Hx.out rfl).1
  have gx12 : Hid (w0.cell? ⟨w.heap.size, 12, none⟩ = some (.string x.s)) := Lib.hid (cell_of_block (k := 12) Hx.out rfl).1
  have gy0 : Hid (w0.cell? ⟨w.heap.size + 1, 0, none⟩ = some (.int .i64 y.fp)) := Lib.hid (cell_of_block (k := 0) Hy.out rfl).1
  have gy1 : Hid (w0.cell? ⟨w.heap.size + 1, 1, none⟩ = some (.int .i64 y.tp)) := Lib.hid (cell_of_block (k := 1) Hy.out rfl).1
  have gy2 : Hid (w0.cell? ⟨w.heap.size + 1, 2, none⟩ = some (.int .i64 y.sq)) := Lib.hid (cell_of_block (k := 2) Hy.out rfl).1
  have gy3 : Hid (w0.cell? ⟨w.heap.size + 1, 3, none⟩ = some (.int .i64 y.ack)) := Lib.hid (cell_of_block (k := 3) Hy.out rfl).1
  have gy4 : Hid (w0.cell? ⟨w.heap.size + 1, 4, none⟩ = some (.bool y.syn)) := Lib.hid (cell_of_block (k := 4) Hy.out rfl).1
  have gy5 : Hid (w0.cell? ⟨w.heap.size + 1, 5, none⟩ = some (.bool y.fin)) := Lib.hid (cell_of_block (k := 5) Hy.out rfl).1
  have gy6 : Hid (w0.cell? ⟨w.heap.size + 1, 6, none⟩ = some (.bool y.rst)) := Lib.hid (cell_of_block (k := 6) Hy.out rfl).1
  have gy7 : Hid (w0.cell? ⟨w.heap.size + 1, 7, none⟩ = some (.bool y.ha)) := Lib.hid (cell_of_block (k := 7) Hy.out rfl).1
  have gy8 : Hid (w0.cell? ⟨w.heap.size + 1, 8, none⟩ = some (.int .i64 y.win)) := Lib.hid (cell_of_block (k := 8) Hy.out rfl).1
  have gy9 : Hid (w0.cell? ⟨w.heap.size + 1, 9, none⟩ = some (.int .i64 y.mss)) := Lib.hid (cell_of_block (k := 9) Hy.out rfl).1
  have gy10 : Hid (w0.cell? ⟨w.heap.size + 1, 10, none⟩ = some (.bool y.sacks)) := Lib.hid (cell_of_block (k := 10) Hy.out rfl).1
  have gy11 : Hid (w0.cell? ⟨w.heap.size + 1, 11, none⟩ = some (.slice A' y.bl.length c')) := Lib.hid (cell_of_block (k := 11) Hy.out rfl).1
  have gy12 : Hid (w0.cell? ⟨w.heap.size + 1, 12, none⟩ = some (.string y.s)) := Lib.hid (cell_of_block (k := 12) Hy.out rfl).1
  refine wp_region_held_drew (S := (fun w' => w'.cell? ⟨w.heap.size, 0, none⟩ = some (.int .i64 x.fp) ∧ w'.cell? ⟨w.heap.size, 1, none⟩ = some (.int .i64 x.tp) ∧ w'.cell? ⟨w.heap.size, 2, none⟩ = some (.int .i64 x.sq) ∧ w'.cell? ⟨w.heap.size, 3, none⟩ = some (.int .i64 x.ack) ∧ w'.cell? ⟨w.heap.size, 4, none⟩ = some (.bool x.syn) ∧ w'.cell? ⟨w.heap.size, 5, none⟩ = some (.bool x.fin) ∧ w'.cell? ⟨w.heap.size, 6, none⟩ = some (.bool x.rst) ∧ w'.cell? ⟨w.heap.size, 7, none⟩ = some (.bool x.ha) ∧ w'.cell? ⟨w.heap.size, 8, none⟩ = some (.int .i64 x.win) ∧ w'.cell? ⟨w.heap.size, 9, none⟩ = some (.int .i64 x.mss) ∧ w'.cell? ⟨w.heap.size, 10, none⟩ = some (.bool x.sacks) ∧ w'.cell? ⟨w.heap.size, 11, none⟩ = some (.slice A x.bl.length c) ∧ w'.cell? ⟨w.heap.size, 12, none⟩ = some (.string x.s) ∧ w'.cell? ⟨w.heap.size + 1, 0, none⟩ = some (.int .i64 y.fp) ∧ w'.cell? ⟨w.heap.size + 1, 1, none⟩ = some (.int .i64 y.tp) ∧ w'.cell? ⟨w.heap.size + 1, 2, none⟩ = some (.int .i64 y.sq) ∧ w'.cell? ⟨w.heap.size + 1, 3, none⟩ = some (.int .i64 y.ack) ∧ w'.cell? ⟨w.heap.size + 1, 4, none⟩ = some (.bool y.syn) ∧ w'.cell? ⟨w.heap.size + 1, 5, none⟩ = some (.bool y.fin) ∧ w'.cell? ⟨w.heap.size + 1, 6, none⟩ = some (.bool y.rst) ∧ w'.cell? ⟨w.heap.size + 1, 7, none⟩ = some (.bool y.ha) ∧ w'.cell? ⟨w.heap.size + 1, 8, none⟩ = some (.int .i64 y.win) ∧ w'.cell? ⟨w.heap.size + 1, 9, none⟩ = some (.int .i64 y.mss) ∧ w'.cell? ⟨w.heap.size + 1, 10, none⟩ = some (.bool y.sacks) ∧ w'.cell? ⟨w.heap.size + 1, 11, none⟩ = some (.slice A' y.bl.length c') ∧ w'.cell? ⟨w.heap.size + 1, 12, none⟩ = some (.string y.s) ∧ Below w0.heap.size w0 w')) (by kernel_rfl) ⟨gx0.out, gx1.out, gx2.out, gx3.out, gx4.out, gx5.out, gx6.out, gx7.out, gx8.out, gx9.out, gx10.out, gx11.out, gx12.out, gy0.out, gy1.out, gy2.out, gy3.out, gy4.out, gy5.out, gy6.out, gy7.out, gy8.out, gy9.out, gy10.out, gy11.out, gy12.out, HR.drew⟩ ?_
  intro hS
  refine wpAnyH_take (i := 0) (oi := ⟨some 5, _, _, _, _, _⟩) (v := ?va0) rfl (by kernel_rfl) (by kernel_rfl) (by kernel_rfl) (fun _ _ _ h => h) (Or.inl ⟨by rfl, ?hya0⟩) (by exact hS) ?rea0
  case hya0 => (intro ww hSw; (try dsimp only at hSw); go_simp; first | done | with_reducible rfl)
  try simp only [Act.put, List.setIfInBounds_toArray, List.set_cons_zero, List.set_cons_succ]
  refine wpAnyH_take (i := 1) (oi := ⟨some 6, _, _, _, _, _⟩) (v := ?va1) rfl (by kernel_rfl) (by kernel_rfl) (by kernel_rfl) (fun _ _ _ h => h) (Or.inl ⟨by rfl, ?hya1⟩) (by exact hS) ?rea1
  case hya1 => (intro ww hSw; (try dsimp only at hSw); go_simp; first | done | with_reducible rfl)
  try simp only [Act.put, List.setIfInBounds_toArray, List.set_cons_zero, List.set_cons_succ]
  refine wpAnyH_take (i := 2) (oi := ⟨some 7, _, _, _, _, _⟩) (v := ?va2) rfl (by kernel_rfl) (by kernel_rfl) (by kernel_rfl) (fun _ _ _ h => h) (Or.inl ⟨by rfl, ?hya2⟩) (by exact hS) ?rea2
  case hya2 => (intro ww hSw; (try dsimp only at hSw); go_simp; first | done | with_reducible rfl)
  try simp only [Act.put, List.setIfInBounds_toArray, List.set_cons_zero, List.set_cons_succ]
  refine wpAnyH_take (i := 3) (oi := ⟨some 8, _, _, _, _, _⟩) (v := ?va3) rfl (by kernel_rfl) (by kernel_rfl) (by kernel_rfl) (fun _ _ _ h => h) (Or.inl ⟨by rfl, ?hya3⟩) (by exact hS) ?rea3
  case hya3 => (intro ww hSw; (try dsimp only at hSw); go_simp; first | done | with_reducible rfl)
  try simp only [Act.put, List.setIfInBounds_toArray, List.set_cons_zero, List.set_cons_succ]
  refine wpAnyH_take (i := 4) (oi := ⟨some 9, _, _, _, _, _⟩) (v := ?va4) rfl (by kernel_rfl) (by kernel_rfl) (by kernel_rfl) (fun _ _ _ h => h) (Or.inl ⟨by rfl, ?hya4⟩) (by exact hS) ?rea4
  case hya4 => (intro ww hSw; (try dsimp only at hSw); go_simp; first | done | with_reducible rfl)
  try simp only [Act.put, List.setIfInBounds_toArray, List.set_cons_zero, List.set_cons_succ]
  refine wpAnyH_take (i := 5) (oi := ⟨some 10, _, _, _, _, _⟩) (v := ?va5) rfl (by kernel_rfl) (by kernel_rfl) (by kernel_rfl) (fun _ _ _ h => h) (Or.inl ⟨by rfl, ?hya5⟩) (by exact hS) ?rea5
  case hya5 => (intro ww hSw; (try dsimp only at hSw); go_simp; first | done | with_reducible rfl)
  try simp only [Act.put, List.setIfInBounds_toArray, List.set_cons_zero, List.set_cons_succ]
  refine wpAnyH_take (i := 6) (oi := ⟨some 11, _, _, _, _, _⟩) (v := ?va6) rfl (by kernel_rfl) (by kernel_rfl) (by kernel_rfl) (fun _ _ _ h => h) (Or.inl ⟨by rfl, ?hya6⟩) (by exact hS) ?rea6
  case hya6 => (intro ww hSw; (try dsimp only at hSw); go_simp; first | done | with_reducible rfl)
  try simp only [Act.put, List.setIfInBounds_toArray, List.set_cons_zero, List.set_cons_succ]
  refine wpAnyH_take (i := 7) (oi := ⟨some 12, _, _, _, _, _⟩) (v := ?va7) rfl (by kernel_rfl) (by kernel_rfl) (by kernel_rfl) (fun _ _ _ h => h) (Or.inl ⟨by rfl, ?hya7⟩) (by exact hS) ?rea7
  case hya7 => (intro ww hSw; (try dsimp only at hSw); go_simp; first | done | with_reducible rfl)
  try simp only [Act.put, List.setIfInBounds_toArray, List.set_cons_zero, List.set_cons_succ]
  refine wpAnyH_take (i := 8) (oi := ⟨some 13, _, _, _, _, _⟩) (v := ?va8) rfl (by kernel_rfl) (by kernel_rfl) (by kernel_rfl) (fun _ _ _ h => h) (Or.inl ⟨by rfl, ?hya8⟩) (by exact hS) ?rea8
  case hya8 => (intro ww hSw; (try dsimp only at hSw); go_simp; first | done | with_reducible rfl)
  try simp only [Act.put, List.setIfInBounds_toArray, List.set_cons_zero, List.set_cons_succ]
  refine wpAnyH_take (i := 9) (oi := ⟨some 14, _, _, _, _, _⟩) (v := ?va9) rfl (by kernel_rfl) (by kernel_rfl) (by kernel_rfl) (fun _ _ _ h => h) (Or.inl ⟨by rfl, ?hya9⟩) (by exact hS) ?rea9
  case hya9 => (intro ww hSw; (try dsimp only at hSw); go_simp; first | done | with_reducible rfl)
  try simp only [Act.put, List.setIfInBounds_toArray, List.set_cons_zero, List.set_cons_succ]
  refine wpAnyH_take (i := 10) (oi := ⟨some 15, _, _, _, _, _⟩) (v := ?va10) rfl (by kernel_rfl) (by kernel_rfl) (by kernel_rfl) (fun _ _ _ h => h) (Or.inl ⟨by rfl, ?hya10⟩) (by exact hS) ?rea10
  case hya10 => (intro ww hSw; (try dsimp only at hSw); go_simp; first | done | with_reducible rfl)
  try simp only [Act.put, List.setIfInBounds_toArray, List.set_cons_zero, List.set_cons_succ]
  refine wpAnyH_take (i := 11) (oi := ⟨some 16, _, _, _, _, _⟩) (v := ?va11) rfl (by kernel_rfl) (by kernel_rfl) (by kernel_rfl) (fun _ _ _ h => h) (Or.inl ⟨by rfl, ?hya11⟩) (by exact hS) ?rea11
  case hya11 => (intro ww hSw; (try dsimp only at hSw); go_simp; first | done | with_reducible rfl)
  try simp only [Act.put, List.setIfInBounds_toArray, List.set_cons_zero, List.set_cons_succ]
  refine wpAnyH_take (i := 12) (oi := ⟨some 17, _, _, _, _, _⟩) (v := ?va12) rfl (by kernel_rfl) (by kernel_rfl) (by kernel_rfl) (fun _ _ _ h => h) (Or.inl ⟨by rfl, ?hya12⟩) (by exact hS) ?rea12
  case hya12 => (intro ww hSw; (try dsimp only at hSw); go_simp; first | done | with_reducible rfl)
  try simp only [Act.put, List.setIfInBounds_toArray, List.set_cons_zero, List.set_cons_succ]
  refine wpAnyH_take (i := 13) (oi := ⟨some 18, _, _, _, _, _⟩) (v := ?va13) rfl (by kernel_rfl) (by kernel_rfl) (by kernel_rfl) (fun _ _ _ h => h) (Or.inl ⟨by rfl, ?hya13⟩) (by exact hS) ?rea13
  case hya13 => (intro ww hSw; (try dsimp only at hSw); go_simp; first | done | with_reducible rfl)
  try simp only [Act.put, List.setIfInBounds_toArray, List.set_cons_zero, List.set_cons_succ]
  refine wpAnyH_take (i := 14) (oi := ⟨some 19, _, _, _, _, _⟩) (v := ?va14) rfl (by kernel_rfl) (by kernel_rfl) (by kernel_rfl) (fun _ _ _ h => h) (Or.inl ⟨by rfl, ?hya14⟩) (by exact hS) ?rea14
  case hya14 => (intro ww hSw; (try dsimp only at hSw); go_simp; first | done | with_reducible rfl)
  try simp only [Act.put, List.setIfInBounds_toArray, List.set_cons_zero, List.set_cons_succ]
  refine wpAnyH_take (i := 15) (oi := ⟨some 20, _, _, _, _, _⟩) (v := ?va15) rfl (by kernel_rfl) (by kernel_rfl) (by kernel_rfl) (fun _ _ _ h => h) (Or.inl ⟨by rfl, ?hya15⟩) (by exact hS) ?rea15
  case hya15 => (intro ww hSw; (try dsimp only at hSw); go_simp; first | done | with_reducible rfl)
  try simp only [Act.put, List.setIfInBounds_toArray, List.set_cons_zero, List.set_cons_succ]
  refine wpAnyH_take (i := 16) (oi := ⟨some 21, _, _, _, _, _⟩) (v := ?va16) rfl (by kernel_rfl) (by kernel_rfl) (by kernel_rfl) (fun _ _ _ h => h) (Or.inl ⟨by rfl, ?hya16⟩) (by exact hS) ?rea16
  case hya16 => (intro ww hSw; (try dsimp only at hSw); go_simp; first | done | with_reducible rfl)
  try simp only [Act.put, List.setIfInBounds_toArray, List.set_cons_zero, List.set_cons_succ]
  refine wpAnyH_take (i := 17) (oi := ⟨some 22, _, _, _, _, _⟩) (v := ?va17) rfl (by kernel_rfl) (by kernel_rfl) (by kernel_rfl) (fun _ _ _ h => h) (Or.inl ⟨by rfl, ?hya17⟩) (by exact hS) ?rea17
  case hya17 => (intro ww hSw; (try dsimp only at hSw); go_simp; first | done | with_reducible rfl)
  try simp only [Act.put, List.setIfInBounds_toArray, List.set_cons_zero, List.set_cons_succ]
  refine wpAnyH_take (i := 18) (oi := ⟨some 23, _, _, _, _, _⟩) (v := ?va18) rfl (by kernel_rfl) (by kernel_rfl) (by kernel_rfl) (fun _ _ _ h => h) (Or.inl ⟨by rfl, ?hya18⟩) (by exact hS) ?rea18
  case hya18 => (intro ww hSw; (try dsimp only at hSw); go_simp; first | done | with_reducible rfl)
  try simp only [Act.put, List.setIfInBounds_toArray, List.set_cons_zero, List.set_cons_succ]
  refine wpAnyH_take (i := 19) (oi := ⟨some 24, _, _, _, _, _⟩) (v := ?va19) rfl (by kernel_rfl) (by kernel_rfl) (by kernel_rfl) (fun _ _ _ h => h) (Or.inl ⟨by rfl, ?hya19⟩) (by exact hS) ?rea19
  case hya19 => (intro ww hSw; (try dsimp only at hSw); go_simp; first | done | with_reducible rfl)
  try simp only [Act.put, List.setIfInBounds_toArray, List.set_cons_zero, List.set_cons_succ]
  refine wpAnyH_take (i := 20) (oi := ⟨some 25, _, _, _, _, _⟩) (v := ?va20) rfl (by kernel_rfl) (by kernel_rfl) (by kernel_rfl) (fun _ _ _ h => h) (Or.inl ⟨by rfl, ?hya20⟩) (by exact hS) ?rea20
  case hya20 => (intro ww hSw; (try dsimp only at hSw); go_simp; first | done | with_reducible rfl)
  try simp only [Act.put, List.setIfInBounds_toArray, List.set_cons_zero, List.set_cons_succ]
  refine wpAnyH_take (i := 21) (oi := ⟨some 26, _, _, _, _, _⟩) (v := ?va21) rfl (by kernel_rfl) (by kernel_rfl) (by kernel_rfl) (fun _ _ _ h => h) (Or.inl ⟨by rfl, ?hya21⟩) (by exact hS) ?rea21
  case hya21 => (intro ww hSw; (try dsimp only at hSw); go_simp; first | done | with_reducible rfl)
  try simp only [Act.put, List.setIfInBounds_toArray, List.set_cons_zero, List.set_cons_succ]
  refine wpAnyH_take (i := 22) (oi := ⟨some 27, _, _, _, _, _⟩) (v := ?va22) rfl (by kernel_rfl) (by kernel_rfl) (by kernel_rfl) (fun _ _ _ h => h) (Or.inl ⟨by rfl, ?hya22⟩) (by exact hS) ?rea22
  case hya22 => (intro ww hSw; (try dsimp only at hSw); go_simp; first | done | with_reducible rfl)
  try simp only [Act.put, List.setIfInBounds_toArray, List.set_cons_zero, List.set_cons_succ]
  refine wpAnyH_take (i := 23) (oi := ⟨some 28, _, _, _, _, _⟩) (v := ?va23) rfl (by kernel_rfl) (by kernel_rfl) (by kernel_rfl) (fun _ _ _ h => h) (Or.inl ⟨by rfl, ?hya23⟩) (by exact hS) ?rea23
  case hya23 => (intro ww hSw; (try dsimp only at hSw); go_simp; first | done | with_reducible rfl)
  try simp only [Act.put, List.setIfInBounds_toArray, List.set_cons_zero, List.set_cons_succ]
  refine wpAnyH_take (i := 24) (oi := ⟨some 29, _, _, _, _, _⟩) (v := ?va24) rfl (by kernel_rfl) (by kernel_rfl) (by kernel_rfl) (fun _ _ _ h => h) (Or.inl ⟨by rfl, ?hya24⟩) (by exact hS) ?rea24
  case hya24 => (intro ww hSw; (try dsimp only at hSw); go_simp; first | done | with_reducible rfl)
  try simp only [Act.put, List.setIfInBounds_toArray, List.set_cons_zero, List.set_cons_succ]
  refine wpAnyH_take (i := 25) (oi := ⟨some 30, _, _, _, _, _⟩) (v := ?va25) rfl (by kernel_rfl) (by kernel_rfl) (by kernel_rfl) (fun _ _ _ h => h) (Or.inl ⟨by rfl, ?hya25⟩) (by exact hS) ?rea25
  case hya25 => (intro ww hSw; (try dsimp only at hSw); go_simp; first | done | with_reducible rfl)
  try simp only [Act.put, List.setIfInBounds_toArray, List.set_cons_zero, List.set_cons_succ]
  refine wpAnyH_take (i := 26) (oi := ⟨some 31, _, _, _, _, _⟩) (v := ?va26) rfl (by kernel_rfl) (by kernel_rfl) (by kernel_rfl) (fun _ _ _ h => h) (Or.inl ⟨by rfl, ?hya26⟩) (by exact hS) ?rea26
  case hya26 => (intro ww hSw; (try dsimp only at hSw); go_simp; first | done | with_reducible rfl)
  try simp only [Act.put, List.setIfInBounds_toArray, List.set_cons_zero, List.set_cons_succ]
  refine wpAnyH_take (i := 27) (oi := ⟨some 32, _, _, _, _, _⟩) (v := ?va27) rfl (by kernel_rfl) (by kernel_rfl) (by kernel_rfl) (fun _ _ _ h => h) (Or.inl ⟨by rfl, ?hya27⟩) (by exact hS) ?rea27
  case hya27 => (intro ww hSw; (try dsimp only at hSw); go_simp; first | done | with_reducible rfl)
  try simp only [Act.put, List.setIfInBounds_toArray, List.set_cons_zero, List.set_cons_succ]
  refine wpAnyH_take (i := 29) (oi := ⟨some 34, _, _, _, _, _⟩) (v := ?va29) rfl (by kernel_rfl) (by kernel_rfl) (by kernel_rfl) (fun _ _ _ h => h) (Or.inl ⟨by rfl, ?hya29⟩) (by exact hS) ?rea29
  case hya29 => (intro ww hSw; (try dsimp only at hSw); go_simp; first | done | with_reducible rfl)
  try simp only [Act.put, List.setIfInBounds_toArray, List.set_cons_zero, List.set_cons_succ]
  refine wpAnyH_ready (rs := [28]) (by kernel_rfl) (by simp) ?_
  refine AllReadyH.cons rfl (fun Ka hKa => ?_) AllReadyH.nil
  go_simp
  refine (flags_any _ _ _ _ _ _ _ _ _ _ _ _ _ _ _ _).mono ?_
  rintro e w1 ⟨rfl, hbA⟩
  have hRA := Lib.hid (below_call HR.drew hbA)
  refine hKa.out _ _ ⟨bcell (hRA.out) gx0.out, bcell (hRA.out) gx1.out, bcell (hRA.out) gx2.out, bcell (hRA.out) gx3.out, bcell (hRA.out) gx4.out, bcell (hRA.out) gx5.out, bcell (hRA.out) gx6.out, bcell (hRA.out) gx7.out, bcell (hRA.out) gx8.out, bcell (hRA.out) gx9.out, bcell (hRA.out) gx10.out, bcell (hRA.out) gx11.out, bcell (hRA.out) gx12.out, bcell (hRA.out) gy0.out, bcell (hRA.out) gy1.out, bcell (hRA.out) gy2.out, bcell (hRA.out) gy3.out, bcell (hRA.out) gy4.out, bcell (hRA.out) gy5.out, bcell (hRA.out) gy6.out, bcell (hRA.out) gy7.out, bcell (hRA.out) gy8.out, bcell (hRA.out) gy9.out, bcell (hRA.out) gy10.out, bcell (hRA.out) gy11.out, bcell (hRA.out) gy12.out, hRA.out⟩ (fun h1 => ?_)
  try simp only [Act.put, List.setIfInBounds_toArray, List.set_cons_zero, List.set_cons_succ]
  refine wpAnyH_ready (rs := [30]) (by kernel_rfl) (by simp) ?_
  refine AllReadyH.cons rfl (fun Kb hKb => ?_) AllReadyH.nil
  go_simp
  refine (flags_any _ _ _ _ _ _ _ _ _ _ _ _ _ _ _ _).mono ?_
  rintro e w2 ⟨rfl, hbB⟩
  have hRB := Lib.hid (below_call hRA.out hbB)
  refine hKb.out _ _ ⟨bcell (hRB.out) gx0.out, bcell (hRB.out) gx1.out, bcell (hRB.out) gx2.out, bcell (hRB.out) gx3.out, bcell (hRB.out) gx4.out, bcell (hRB.out) gx5.out, bcell (hRB.out) gx6.out, bcell (hRB.out) gx7.out, bcell (hRB.out) gx8.out, bcell (hRB.out) gx9.out, bcell (hRB.out) gx10.out, bcell (hRB.out) gx11.out, bcell (hRB.out) gx12.out, bcell (hRB.out) gy0.out, bcell (hRB.out) gy1.out, bcell (hRB.out) gy2.out, bcell (hRB.out) gy3.out, bcell (hRB.out) gy4.out, bcell (hRB.out) gy5.out, bcell (hRB.out) gy6.out, bcell (hRB.out) gy7.out, bcell (hRB.out) gy8.out, bcell (hRB.out) gy9.out, bcell (hRB.out) gy10.out, bcell (hRB.out) gy11.out, bcell (hRB.out) gy12.out, hRB.out⟩ (fun h2 => ?_)
  try simp only [Act.put, List.setIfInBounds_toArray, List.set_cons_zero, List.set_cons_succ]
  clear h1 hbA hbB
  refine wpAnyH_take (i := 31) (oi := ⟨some 36, _, _, _, _, _⟩) (v := ?vc31) rfl (by kernel_rfl) (by kernel_rfl) (by kernel_rfl) (fun _ _ _ h => h) (Or.inl ⟨by rfl, ?hyc31⟩) (by exact h2) ?rec31
  case hyc31 => (intro ww hSw; (try dsimp only at hSw); go_simp; first | done | with_reducible rfl)
  try simp only [Act.put, List.setIfInBounds_toArray, List.set_cons_zero, List.set_cons_succ]
  refine wpAnyH_take (i := 32) (oi := ⟨some 37, _, _, _, _, _⟩) (v := ?vc32) rfl (by kernel_rfl) (by kernel_rfl) (by kernel_rfl) (fun _ _ _ h => h) (Or.inl ⟨by rfl, ?hyc32⟩) (by exact h2) ?rec32
  case hyc32 => (intro ww hSw; (try dsimp only at hSw); go_simp; first | done | with_reducible rfl)
  try simp only [Act.put, List.setIfInBounds_toArray, List.set_cons_zero, List.set_cons_succ]
  refine wpAnyH_take (i := 33) (oi := ⟨some 38, _, _, _, _, _⟩) (v := ?vc33) rfl (by kernel_rfl) (by kernel_rfl) (by kernel_rfl) (fun _ _ _ h => h) (Or.inl ⟨by rfl, ?hyc33⟩) (by exact h2) ?rec33
  case hyc33 => (intro ww hSw; (try dsimp only at hSw); go_simp; first | done | with_reducible rfl)
  try simp only [Act.put, List.setIfInBounds_toArray, List.set_cons_zero, List.set_cons_succ]
  refine wpAnyH_take (i := 34) (oi := ⟨some 39, _, _, _, _, _⟩) (v := undef) rfl (by kernel_rfl) (by kernel_rfl) (by kernel_rfl) (fun _ _ _ h => h) (Or.inr ⟨by rfl, rfl⟩) (by exact h2) ?_
  try simp only [Act.put, List.setIfInBounds_toArray, List.set_cons_zero, List.set_cons_succ]
  refine wpAnyH_take (i := 35) (oi := ⟨some 40, _, _, _, _, _⟩) (v := undef) rfl (by kernel_rfl) (by kernel_rfl) (by kernel_rfl) (fun _ _ _ h => h) (Or.inr ⟨by rfl, rfl⟩) (by exact h2) ?_
  try simp only [Act.put, List.setIfInBounds_toArray, List.set_cons_zero, List.set_cons_succ]
  refine wpAnyH_take (i := 36) (oi := ⟨some 41, _, _, _, _, _⟩) (v := undef) rfl (by kernel_rfl) (by kernel_rfl) (by kernel_rfl) (fun _ _ _ h => h) (Or.inr ⟨by rfl, rfl⟩) (by exact h2) ?_
  try simp only [Act.put, List.setIfInBounds_toArray, List.set_cons_zero, List.set_cons_succ]
  refine wpAnyH_take (i := 37) (oi := ⟨some 42, _, _, _, _, _⟩) (v := undef) rfl (by kernel_rfl) (by kernel_rfl) (by kernel_rfl) (fun _ _ _ h => h) (Or.inr ⟨by rfl, rfl⟩) (by exact h2) ?_
  try simp only [Act.put, List.setIfInBounds_toArray, List.set_cons_zero, List.set_cons_succ]
  refine wpAnyH_take (i := 38) (oi := ⟨some 43, _, _, _, _, _⟩) (v := undef) rfl (by kernel_rfl) (by kernel_rfl) (by kernel_rfl) (fun _ _ _ h => h) (Or.inr ⟨by rfl, rfl⟩) (by exact h2) ?_
  try simp only [Act.put, List.setIfInBounds_toArray, List.set_cons_zero, List.set_cons_succ]
  refine wpAnyH_take (i := 39) (oi := ⟨some 44, _, _, _, _, _⟩) (v := ?vc39) rfl (by kernel_rfl) (by kernel_rfl) (by kernel_rfl) (fun _ _ _ h => h) (Or.inl ⟨by rfl, ?hyc39⟩) (by exact h2) ?rec39
  case hyc39 => (intro ww hSw; (try dsimp only at hSw); go_simp; first | done | with_reducible rfl)
  try simp only [Act.put, List.setIfInBounds_toArray, List.set_cons_zero, List.set_cons_succ]
  refine wpAnyH_take (i := 40) (oi := ⟨some 45, _, _, _, _, _⟩) (v := ?vc40) rfl (by kernel_rfl) (by kernel_rfl) (by kernel_rfl) (fun _ _ _ h => h) (Or.inl ⟨by rfl, ?hyc40⟩) (by exact h2) ?rec40
  case hyc40 => (intro ww hSw; (try dsimp only at hSw); go_simp; first | done | with_reducible rfl)
  try simp only [Act.put, List.setIfInBounds_toArray, List.set_cons_zero, List.set_cons_succ]
  refine wpAnyH_take (i := 41) (oi := ⟨some 46, _, _, _, _, _⟩) (v := undef) rfl (by kernel_rfl) (by kernel_rfl) (by kernel_rfl) (fun _ _ _ h => h) (Or.inr ⟨by rfl, rfl⟩) (by exact h2) ?_
  try simp only [Act.put, List.setIfInBounds_toArray, List.set_cons_zero, List.set_cons_succ]
  refine wpAnyH_take (i := 42) (oi := ⟨some 47, _, _, _, _, _⟩) (v := undef) rfl (by kernel_rfl) (by kernel_rfl) (by kernel_rfl) (fun _ _ _ h => h) (Or.inr ⟨by rfl, rfl⟩) (by exact h2) ?_
  try simp only [Act.put, List.setIfInBounds_toArray, List.set_cons_zero, List.set_cons_succ]
  refine wpAnyH_take (i := 43) (oi := ⟨some 48, _, _, _, _, _⟩) (v := undef) rfl (by kernel_rfl) (by kernel_rfl) (by kernel_rfl) (fun _ _ _ h => h) (Or.inr ⟨by rfl, rfl⟩) (by exact h2) ?_
  try simp only [Act.put, List.setIfInBounds_toArray, List.set_cons_zero, List.set_cons_succ]
  refine wpAnyH_take (i := 44) (oi := ⟨some 49, _, _, _, _, _⟩) (v := undef) rfl (by kernel_rfl) (by kernel_rfl) (by kernel_rfl) (fun _ _ _ h => h) (Or.inr ⟨by rfl, rfl⟩) (by exact h2) ?_
  try simp only [Act.put, List.setIfInBounds_toArray, List.set_cons_zero, List.set_cons_succ]
  refine wpAnyH_take (i := 45) (oi := ⟨some 50, _, _, _, _, _⟩) (v := undef) rfl (by kernel_rfl) (by kernel_rfl) (by kernel_rfl) (fun _ _ _ h => h) (Or.inr ⟨by rfl, rfl⟩) (by exact h2) ?_
  try simp only [Act.put, List.setIfInBounds_toArray, List.set_cons_zero, List.set_cons_succ]
  refine wpAnyH_take (i := 46) (oi := ⟨some 51, _, _, _, _, _⟩) (v := ?vc46) rfl (by kernel_rfl) (by kernel_rfl) (by kernel_rfl) (fun _ _ _ h => h) (Or.inl ⟨by rfl, ?hyc46⟩) (by exact h2) ?rec46
  case hyc46 => (intro ww hSw; (try dsimp only at hSw); go_simp; first | done | with_reducible rfl)
  try simp only [Act.put, List.setIfInBounds_toArray, List.set_cons_zero, List.set_cons_succ]
  refine wpAnyH_take (i := 47) (oi := ⟨some 52, _, _, _, _, _⟩) (v := ?vc47) rfl (by kernel_rfl) (by kernel_rfl) (by kernel_rfl) (fun _ _ _ h => h) (Or.inl ⟨by rfl, ?hyc47⟩) (by exact h2) ?rec47
  case hyc47 => (intro ww hSw; (try dsimp only at hSw); go_simp; first | done | with_reducible rfl)
  try simp only [Act.put, List.setIfInBounds_toArray, List.set_cons_zero, List.set_cons_succ]
  refine wpAnyH_take (i := 48) (oi := ⟨some 53, _, _, _, _, _⟩) (v := undef) rfl (by kernel_rfl) (by kernel_rfl) (by kernel_rfl) (fun _ _ _ h => h) (Or.inr ⟨by rfl, rfl⟩) (by exact h2) ?_
  try simp only [Act.put, List.setIfInBounds_toArray, List.set_cons_zero, List.set_cons_succ]
  refine wpAnyH_take (i := 49) (oi := ⟨some 54, _, _, _, _, _⟩) (v := undef) rfl (by kernel_rfl) (by kernel_rfl) (by kernel_rfl) (fun _ _ _ h => h) (Or.inr ⟨by rfl, rfl⟩) (by exact h2) ?_
  try simp only [Act.put, List.setIfInBounds_toArray, List.set_cons_zero, List.set_cons_succ]
  refine wpAnyH_take (i := 50) (oi := ⟨some 55, _, _, _, _, _⟩) (v := undef) rfl (by kernel_rfl) (by kernel_rfl) (by kernel_rfl) (fun _ _ _ h => h) (Or.inr ⟨by rfl, rfl⟩) (by exact h2) ?_
  try simp only [Act.put, List.setIfInBounds_toArray, List.set_cons_zero, List.set_cons_succ]
  refine wpAnyH_take (i := 51) (oi := ⟨some 56, _, _, _, _, _⟩) (v := undef) rfl (by kernel_rfl) (by kernel_rfl) (by kernel_rfl) (fun _ _ _ h => h) (Or.inr ⟨by rfl, rfl⟩) (by exact h2) ?_
  try simp only [Act.put, List.setIfInBounds_toArray, List.set_cons_zero, List.set_cons_succ]
  refine wpAnyH_take (i := 52) (oi := ⟨some 57, _, _, _, _, _⟩) (v := undef) rfl (by kernel_rfl) (by kernel_rfl) (by kernel_rfl) (fun _ _ _ h => h) (Or.inr ⟨by rfl, rfl⟩) (by exact h2) ?_
  try simp only [Act.put, List.setIfInBounds_toArray, List.set_cons_zero, List.set_cons_succ]
  refine wpAnyH_take (i := 53) (oi := ⟨some 58, _, _, _, _, _⟩) (v := ?vc53) rfl (by kernel_rfl) (by kernel_rfl) (by kernel_rfl) (fun _ _ _ h => h) (Or.inl ⟨by rfl, ?hyc53⟩) (by exact h2) ?rec53
  case hyc53 => (intro ww hSw; (try dsimp only at hSw); go_simp; first | done | with_reducible rfl)
  try simp only [Act.put, List.setIfInBounds_toArray, List.set_cons_zero, List.set_cons_succ]
  refine wpAnyH_take (i := 54) (oi := ⟨some 59, _, _, _, _, _⟩) (v := ?vc54) rfl (by kernel_rfl) (by kernel_rfl) (by kernel_rfl) (fun _ _ _ h => h) (Or.inl ⟨by rfl, ?hyc54⟩) (by exact h2) ?rec54
  case hyc54 => (intro ww hSw; (try dsimp only at hSw); go_simp; first | done | with_reducible rfl)
  try simp only [Act.put, List.setIfInBounds_toArray, List.set_cons_zero, List.set_cons_succ]
  refine wpAnyH_take (i := 55) (oi := ⟨some 60, _, _, _, _, _⟩) (v := undef) rfl (by kernel_rfl) (by kernel_rfl) (by kernel_rfl) (fun _ _ _ h => h) (Or.inr ⟨by rfl, rfl⟩) (by exact h2) ?_
  try simp only [Act.put, List.setIfInBounds_toArray, List.set_cons_zero, List.set_cons_succ]
  refine wpAnyH_take (i := 56) (oi := ⟨some 61, _, _, _, _, _⟩) (v := undef) rfl (by kernel_rfl) (by kernel_rfl) (by kernel_rfl) (fun _ _ _ h => h) (Or.inr ⟨by rfl, rfl⟩) (by exact h2) ?_
  try simp only [Act.put, List.setIfInBounds_toArray, List.set_cons_zero, List.set_cons_succ]
  refine wpAnyH_take (i := 57) (oi := ⟨some 62, _, _, _, _, _⟩) (v := undef) rfl (by kernel_rfl) (by kernel_rfl) (by kernel_rfl) (fun _ _ _ h => h) (Or.inr ⟨by rfl, rfl⟩) (by exact h2) ?_
  try simp only [Act.put, List.setIfInBounds_toArray, List.set_cons_zero, List.set_cons_succ]
  refine wpAnyH_take (i := 58) (oi := ⟨some 63, _, _, _, _, _⟩) (v := undef) rfl (by kernel_rfl) (by kernel_rfl) (by kernel_rfl) (fun _ _ _ h => h) (Or.inr ⟨by rfl, rfl⟩) (by exact h2) ?_
  try simp only [Act.put, List.setIfInBounds_toArray, List.set_cons_zero, List.set_cons_succ]
  refine wpAnyH_take (i := 59) (oi := ⟨some 64, _, _, _, _, _⟩) (v := undef) rfl (by kernel_rfl) (by kernel_rfl) (by kernel_rfl) (fun _ _ _ h => h) (Or.inr ⟨by rfl, rfl⟩) (by exact h2) ?_
  try simp only [Act.put, List.setIfInBounds_toArray, List.set_cons_zero, List.set_cons_succ]
  refine wpAnyH_take (i := 60) (oi := ⟨some 65, _, _, _, _, _⟩) (v := ?vc60) rfl (by kernel_rfl) (by kernel_rfl) (by kernel_rfl) (fun _ _ _ h => h) (Or.inl ⟨by rfl, ?hyc60⟩) (by exact h2) ?rec60
  case hyc60 => (intro ww hSw; (try dsimp only at hSw); go_simp; first | done | with_reducible rfl)
  try simp only [Act.put, List.setIfInBounds_toArray, List.set_cons_zero, List.set_cons_succ]
  refine wpAnyH_take (i := 61) (oi := ⟨some 4, _, _, _, _, _⟩) (v := ?vc61) rfl (by kernel_rfl) (by kernel_rfl) (by kernel_rfl) (fun _ _ _ h => h) (Or.inl ⟨by rfl, ?hyc61⟩) (by exact h2) ?rec61
  case hyc61 => (intro ww hSw; (try dsimp only at hSw); go_simp; first | done | with_reducible rfl)
  try simp only [Act.put, List.setIfInBounds_toArray, List.set_cons_zero, List.set_cons_succ]
  refine wpAnyH_done (by kernel_rfl) ?_ _
  go_wp2_with fail
  go_ret
  exact ⟨rfl, below_call HB hRB.out⟩
set_option maxRecDepth 100000 in
set_option maxHeartbeats 4000000 in
theorem same_c5 (x y : Seg) (A A' : Option Addr) (c c' : Nat) (w : World) (hn : x.bl.length ≤ 9223372036854775807) (h0 : x.fp = y.fp) (h1 : x.tp = y.tp) (h2 : x.sq = y.sq) (h3 : x.ack = y.ack) (h4 : x.syn = y.syn ∧ x.fin = y.fin ∧ x.rst = y.rst ∧ x.ha = y.ha ∧ x.sacks = y.sacks) (h5 : ¬ (x.win = y.win)) (hb : Bks w A x.bl.length x.bl) (hb' : Bks w A' y.bl.length y.bl) :
    Calls Try.prog 18 #[.agg #[.int .i64 x.fp, .int .i64 x.tp, .int .i64 x.sq, .int .i64 x.ack, .bool x.syn, .bool x.fin, .bool x.rst, .bool x.ha, .int .i64 x.win, .int .i64 x.mss, .bool x.sacks, .slice A x.bl.length c, .string x.s], .agg #[.int .i64 y.fp, .int .i64 y.tp, .int .i64 y.sq, .int .i64 y.ack, .bool y.syn, .bool y.fin, .bool y.rst, .bool y.ha, .int .i64 y.win, .int .i64 y.mss, .bool y.sacks, .slice A' y.bl.length c', .string y.s]] w fun e w' => e = .returned (.bool false) ∧ Below w.heap.size w w' := by
  have _u := hb; have _v := hb'; have _t := hn; clear _u _v _t hb hb' hn
  have Hx := Lib.hid (block_alloc (alloc_new w (.cells #[.int .i64 x.fp, .int .i64 x.tp, .int .i64 x.sq, .int .i64 x.ack, .bool x.syn, .bool x.fin, .bool x.rst, .bool x.ha, .int .i64 x.win, .int .i64 x.mss, .bool x.sacks, .slice A x.bl.length c, .string x.s] 24)) (.cells #[.int .i64 y.fp, .int .i64 y.tp, .int .i64 y.sq, .int .i64 y.ack, .bool y.syn, .bool y.fin, .bool y.rst, .bool y.ha, .int .i64 y.win, .int .i64 y.mss, .bool y.sacks, .slice A' y.bl.length c', .string y.s] 24))
  have Hy := Lib.hid (alloc_new' (w.alloc (.cells #[.int .i64 x.fp, .int .i64 x.tp, .int .i64 x.sq, .int .i64 x.ack, .bool x.syn, .bool x.fin, .bool x.rst, .bool x.ha, .int .i64 x.win, .int .i64 x.mss, .bool x.sacks, .slice A x.bl.length c, .string x.s] 24)) (.cells #[.int .i64 y.fp, .int .i64 y.tp, .int .i64 y.sq, .int .i64 y.ack, .bool y.syn, .bool y.fin, .bool y.rst, .bool y.ha, .int .i64 y.win, .int .i64 y.mss, .bool y.sacks, .slice A' y.bl.length c', .string y.s] 24) (w.heap.size + 1) (by simp))
  have HB := below_alloc (o := .cells #[.int .i64 y.fp, .int .i64 y.tp, .int .i64 y.sq, .int .i64 y.ack, .bool y.syn, .bool y.fin, .bool y.rst, .bool y.ha, .int .i64 y.win, .int .i64 y.mss, .bool y.sacks, .slice A' y.bl.length c', .string y.s] 24) (below_alloc (o := .cells #[.int .i64 x.fp, .int .i64 x.tp, .int .i64 x.sq, .int .i64 x.ack, .bool x.syn, .bool x.fin, .bool x.rst, .bool x.ha, .int .i64 x.win, .int .i64 x.mss, .bool x.sacks, .slice A x.bl.length c, .string x.s] 24) (Below.refl w.heap.size w))
  have q0 : (x.fp == y.fp) = true := beq_iff_eq.2 h0
  have q1 : (x.tp == y.tp) = true := beq_iff_eq.2 h1
  have q2 : (x.sq == y.sq) = true := beq_iff_eq.2 h2
  have q3 : (x.ack == y.ack) = true := beq_iff_eq.2 h3
  have he : ∀ W : World, (binOp .eql 60 (.agg #[.bool x.syn, .bool x.fin, .bool x.rst, .bool x.ha, .bool x.sacks]) (.agg #[.bool y.syn, .bool y.fin, .bool y.rst, .bool y.ha, .bool y.sacks])).run Try.prog W = .ok (.bool true) W := fun W => flags_eq2 _ _ _ _ _ _ _ _ _ _ h4 W
  have q5 : (x.win == y.win) = false := beq_eq_false_iff_ne.2 h5
  clear h0 h1 h2 h3 h4 h5
  go_enter Try.func18, Try.ntmps18
  go_wp2_with fail
  generalize ((w.alloc (.cells #[.int .i64 x.fp, .int .i64 x.tp, .int .i64 x.sq, .int .i64 x.ack, .bool x.syn, .bool x.fin, .bool x.rst, .bool x.ha, .int .i64 x.win, .int .i64 x.mss, .bool x.sacks, .slice A x.bl.length c, .string x.s] 24)).alloc (.cells #[.int .i64 y.fp, .int .i64 y.tp, .int .i64 y.sq, .int .i64 y.ack, .bool y.syn, .bool y.fin, .bool y.rst, .bool y.ha, .int .i64 y.win, .int .i64 y.mss, .bool y.sacks, .slice A' y.bl.length c', .string y.s] 24)) = w0 at *
  have HR := Below.refl w0.heap.size w0
  have gx0 : Hid (w0.cell? ⟨w.heap.size, 0, none⟩ = some (.int .i64 x.fp)) := Lib.hid (cell_of_block (k := 0) Hx.out rfl).1
  have gx1 : Hid (w0.cell? ⟨w.heap.size, 1, none⟩ = some (.int .i64 x.tp)) := Lib.hid (cell_of_block (k := 1) Hx.out rfl).1
  have gx2 : Hid (w0.cell? ⟨w.heap.size, 2, none⟩ = some (.int .i64 x.sq)) := Lib.hid (cell_of_block (k := 2) Hx.out rfl).1
  have gx3 : Hid (w0.cell? ⟨w.heap.size, 3, none⟩ = some (.int .i64 x.ack)) := Lib.hid (cell_of_block (k := 3) Hx.out rfl).1
  have gx4 : Hid (w0.cell? ⟨w.heap.size, 4, none⟩ = some (.bool x.syn)) := Lib.hid (cell_of_block (k := 4) Hx.out rfl).1
  have gx5 : Hid (w0.cell? ⟨w.heap.size, 5, none⟩ = some (.bool x.fin)) := Lib.hid (cell_of_block (k := 5) Hx.out rfl).1
  have gx6 : Hid (w0.cell? ⟨w.heap.size, 6, none⟩ = some (.bool x.rst)) := Lib.hid (cell_of_block (k := 6) Hx.out rfl).1
  have gx7 : Hid (w0.cell? ⟨w.heap.size, 7, none⟩ = some (.bool x.ha)) := Lib.hid (cell_of_block (k := 7) Hx.out rfl).1
  have gx8 : Hid (w0.cell? ⟨w.heap.size, 8, none⟩ = some (.int .i64 x.win)) := Lib.hid (cell_of_block (k := 8) Hx.out rfl).1
  have gx9 : Hid (w0.cell? ⟨w.heap.size, 9, none⟩ = some (.int .i64 x.mss)) := Lib.hid (cell_of_block (k := 9) Hx.out rfl).1
  have gx10 : Hid (w0.cell? ⟨w.heap.size, 10, none⟩ = some (.bool x.sacks)) := Lib.hid (cell_of_block (k := 10) Hx.out rfl).1
  have gx11 : Hid (w0.cell? ⟨w.heap.size, 11, none⟩ = some (.slice A x.bl.length c)) := Lib.hid (cell_of_block (k := 11) Hx.out rfl).1
  have gx12 : Hid (w0.cell? ⟨w.heap.size, 12, none⟩ = some (.string x.s)) := Lib.hid (cell_of_block (k := 12) Hx.out rfl).1
  have gy0 : Hid (w0.cell? ⟨w.heap.size + 1, 0, none⟩ = some (.int .i64 y.fp)) := Lib.hid (cell_of_block (k := 0) Hy.out rfl).1
  have gy1 : Hid (w0.cell? ⟨w.heap.size + 1, 1, none⟩ = some (.int .i64 y.tp)) := Lib.hid (cell_of_block (k := 1) Hy.out rfl).1
  have gy2 : Hid (w0.cell? ⟨w.heap.size + 1, 2, none⟩ = some (.int .i64 y.sq)) := Lib.hid (cell_of_block (k := 2) Hy.out rfl).1
  have gy3 : Hid (w0.cell? ⟨w.heap.size + 1, 3, none⟩ = some (.int .i64 y.ack)) := Lib.hid (cell_of_block (k := 3) Hy.out rfl).1
  have gy4 : Hid (w0.cell? ⟨w.heap.size + 1, 4, none⟩ = some (.bool y.syn)) := Lib.hid (cell_of_block (k := 4) Hy.out rfl).1
  have gy5 : Hid (w0.cell? ⟨w.heap.size + 1, 5, none⟩ = some (.bool y.fin)) := Lib.hid (cell_of_block (k := 5) Hy.out rfl).1
  have gy6 : Hid (w0.cell? ⟨w.heap.size + 1, 6, none⟩ = some (.bool y.rst)) := Lib.hid (cell_of_block (k := 6) Hy.out rfl).1
  have gy7 : Hid (w0.cell? ⟨w.heap.size + 1, 7, none⟩ = some (.bool y.ha)) := Lib.hid (cell_of_block (k := 7) Hy.out rfl).1
  have gy8 : Hid (w0.cell? ⟨w.heap.size + 1, 8, none⟩ = some (.int .i64 y.win)) := Lib.hid (cell_of_block (k := 8) Hy.out rfl).1
  have gy9 : Hid (w0.cell? ⟨w.heap.size + 1, 9, none⟩ = some (.int .i64 y.mss)) := Lib.hid (cell_of_block (k := 9) Hy.out rfl).1
  have gy10 : Hid (w0.cell? ⟨w.heap.size + 1, 10, none⟩ = some (.bool y.sacks)) := Lib.hid (cell_of_block (k := 10) Hy.out rfl).1
  have gy11 : Hid (w0.cell? ⟨w.heap.size + 1, 11, none⟩ = some (.slice A' y.bl.length c')) := Lib.hid (cell_of_block (k := 11) Hy.out rfl).1
  have gy12 : Hid (w0.cell? ⟨w.heap.size + 1, 12, none⟩ = some (.string y.s)) := Lib.hid (cell_of_block (k := 12) Hy.out rfl).1
  refine wp_region_held_drew (S := (fun w' => w'.cell? ⟨w.heap.size, 0, none⟩ = some (.int .i64 x.fp) ∧ w'.cell? ⟨w.heap.size, 1, none⟩ = some (.int .i64 x.tp) ∧ w'.cell? ⟨w.heap.size, 2, none⟩ = some (.int .i64 x.sq) ∧ w'.cell? ⟨w.heap.size, 3, none⟩ = some (.int .i64 x.ack) ∧ w'.cell? ⟨w.heap.size, 4, none⟩ = some (.bool x.syn) ∧ w'.cell? ⟨w.heap.size, 5, none⟩ = some (.bool x.fin) ∧ w'.cell? ⟨w.heap.size, 6, none⟩ = some (.bool x.rst) ∧ w'.cell? ⟨w.heap.size, 7, none⟩ = some (.bool x.ha) ∧ w'.cell? ⟨w.heap.size, 8, none⟩ = some (.int .i64 x.win) ∧ w'.cell? ⟨w.heap.size, 9, none⟩ = some (.int .i64 x.mss) ∧ w'.cell? ⟨w.heap.size, 10, none⟩ = some (.bool x.sacks) ∧ w'.cell? ⟨w.heap.size, 11, none⟩ = some (.slice A x.bl.length c) ∧ w'.cell? ⟨w.heap.size, 12, none⟩ = some (.string x.s) ∧ w'.cell? ⟨w.heap.size + 1, 0, none⟩ = some (.int .i64 y.fp) ∧ w'.cell? ⟨w.heap.size + 1, 1, none⟩ = some (.int .i64 y.tp) ∧ w'.cell? ⟨w.heap.size + 1, 2, none⟩ = some (.int .i64 y.sq) ∧ w'.cell? ⟨w.heap.size + 1, 3, none⟩ = some (.int .i64 y.ack) ∧ w'.cell? ⟨w.heap.size + 1, 4, none⟩ = some (.bool y.syn) ∧ w'.cell? ⟨w.heap.size + 1, 5, none⟩ = some (.bool y.fin) ∧ w'.cell? ⟨w.heap.size + 1, 6, none⟩ = some (.bool y.rst) ∧ w'.cell? ⟨w.heap.size + 1, 7, none⟩ = some (.bool y.ha) ∧ w'.cell? ⟨w.heap.size + 1, 8, none⟩ = some (.int .i64 y.win) ∧ w'.cell? ⟨w.heap.size + 1, 9, none⟩ = some (.int .i64 y.mss) ∧ w'.cell? ⟨w.heap.size + 1, 10, none⟩ = some (.bool y.sacks) ∧ w'.cell? ⟨w.heap.size + 1, 11, none⟩ = some (.slice A' y.bl.length c') ∧ w'.cell? ⟨w.heap.size + 1, 12, none⟩ = some (.string y.s) ∧ Below w0.heap.size w0 w')) (by kernel_rfl) ⟨gx0.out, gx1.out, gx2.out, gx3.out, gx4.out, gx5.out, gx6.out, gx7.out, gx8.out, gx9.out, gx10.out, gx11.out, gx12.out, gy0.out, gy1.out, gy2.out, gy3.out, gy4.out, gy5.out, gy6.out, gy7.out, gy8.out, gy9.out, gy10.out, gy11.out, gy12.out, HR.drew⟩ ?_
  intro hS
  refine wpAnyH_take (i := 0) (oi := ⟨some 5, _, _, _, _, _⟩) (v := ?va0) rfl (by kernel_rfl) (by kernel_rfl) (by kernel_rfl) (fun _ _ _ h => h) (Or.inl ⟨by rfl, ?hya0⟩) (by exact hS) ?rea0
  case hya0 => (intro ww hSw; (try dsimp only at hSw); go_simp; first | done | with_reducible rfl)
  try simp only [Act.put, List.setIfInBounds_toArray, List.set_cons_zero, List.set_cons_succ]
  refine wpAnyH_take (i := 1) (oi := ⟨some 6, _, _, _, _, _⟩) (v := ?va1) rfl (by kernel_rfl) (by kernel_rfl) (by kernel_rfl) (fun _ _ _ h => h) (Or.inl ⟨by rfl, ?hya1⟩) (by exact hS) ?rea1
  case hya1 => (intro ww hSw; (try dsimp only at hSw); go_simp; first | done | with_reducible rfl)
  try simp only [Act.put, List.setIfInBounds_toArray, List.set_cons_zero, List.set_cons_succ]
  refine wpAnyH_take (i := 2) (oi := ⟨some 7, _, _, _, _, _⟩) (v := ?va2) rfl (by kernel_rfl) (by kernel_rfl) (by kernel_rfl) (fun _ _ _ h => h) (Or.inl ⟨by rfl, ?hya2⟩) (by exact hS) ?rea2
  case hya2 => (intro ww hSw; (try dsimp only at hSw); go_simp; first | done | with_reducible rfl)
  try simp only [Act.put, List.setIfInBounds_toArray, List.set_cons_zero, List.set_cons_succ]
  refine wpAnyH_take (i := 3) (oi := ⟨some 8, _, _, _, _, _⟩) (v := ?va3) rfl (by kernel_rfl) (by kernel_rfl) (by kernel_rfl) (fun _ _ _ h => h) (Or.inl ⟨by rfl, ?hya3⟩) (by exact hS) ?rea3
  case hya3 => (intro ww hSw; (try dsimp only at hSw); go_simp; first | done | with_reducible rfl)
  try simp only [Act.put, List.setIfInBounds_toArray, List.set_cons_zero, List.set_cons_succ]
  refine wpAnyH_take (i := 4) (oi := ⟨some 9, _, _, _, _, _⟩) (v := ?va4) rfl (by kernel_rfl) (by kernel_rfl) (by kernel_rfl) (fun _ _ _ h => h) (Or.inl ⟨by rfl, ?hya4⟩) (by exact hS) ?rea4
  case hya4 => (intro ww hSw; (try dsimp only at hSw); go_simp; first | done | with_reducible rfl)
  try simp only [Act.put, List.setIfInBounds_toArray, List.set_cons_zero, List.set_cons_succ]
  refine wpAnyH_take (i := 5) (oi := ⟨some 10, _, _, _, _, _⟩) (v := ?va5) rfl (by kernel_rfl) (by kernel_rfl) (by kernel_rfl) (fun _ _ _ h => h) (Or.inl ⟨by rfl, ?hya5⟩) (by exact hS) ?rea5
  case hya5 => (intro ww hSw; (try dsimp only at hSw); go_simp; first | done | with_reducible rfl)
  try simp only [Act.put, List.setIfInBounds_toArray, List.set_cons_zero, List.set_cons_succ]
  refine wpAnyH_take (i := 6) (oi := ⟨some 11, _, _, _, _, _⟩) (v := ?va6) rfl (by kernel_rfl) (by kernel_rfl) (by kernel_rfl) (fun _ _ _ h => h) (Or.inl ⟨by rfl, ?hya6⟩) (by exact hS) ?rea6
  case hya6 => (intro ww hSw; (try dsimp only at hSw); go_simp; first | done | with_reducible rfl)
  try simp only [Act.put, List.setIfInBounds_toArray, List.set_cons_zero, List.set_cons_succ]
  refine wpAnyH_take (i := 7) (oi := ⟨some 12, _, _, _, _, _⟩) (v := ?va7) rfl (by kernel_rfl) (by kernel_rfl) (by kernel_rfl) (fun _ _ _ h => h) (Or.inl ⟨by rfl, ?hya7⟩) (by exact hS) ?rea7
  case hya7 => (intro ww hSw; (try dsimp only at hSw); go_simp; first | done | with_reducible rfl)
  try simp only [Act.put, List.setIfInBounds_toArray, List.set_cons_zero, List.set_cons_succ]
  refine wpAnyH_take (i := 8) (oi := ⟨some 13, _, _, _, _, _⟩) (v := ?va8) rfl (by kernel_rfl) (by kernel_rfl) (by kernel_rfl) (fun _ _ _ h => h) (Or.inl ⟨by rfl, ?hya8⟩) (by exact hS) ?rea8
  case hya8 => (intro ww hSw; (try dsimp only at hSw); go_simp; first | done | with_reducible rfl)
  try simp only [Act.put, List.setIfInBounds_toArray, List.set_cons_zero, List.set_cons_succ]
  refine wpAnyH_take (i := 9) (oi := ⟨some 14, _, _, _, _, _⟩) (v := ?va9) rfl (by kernel_rfl) (by kernel_rfl) (by kernel_rfl) (fun _ _ _ h => h) (Or.inl ⟨by rfl, ?hya9⟩) (by exact hS) ?rea9
  case hya9 => (intro ww hSw; (try dsimp only at hSw); go_simp; first | done | with_reducible rfl)
  try simp only [Act.put, List.setIfInBounds_toArray, List.set_cons_zero, List.set_cons_succ]
  refine wpAnyH_take (i := 10) (oi := ⟨some 15, _, _, _, _, _⟩) (v := ?va10) rfl (by kernel_rfl) (by kernel_rfl) (by kernel_rfl) (fun _ _ _ h => h) (Or.inl ⟨by rfl, ?hya10⟩) (by exact hS) ?rea10
  case hya10 => (intro ww hSw; (try dsimp only at hSw); go_simp; first | done | with_reducible rfl)
  try simp only [Act.put, List.setIfInBounds_toArray, List.set_cons_zero, List.set_cons_succ]
  refine wpAnyH_take (i := 11) (oi := ⟨some 16, _, _, _, _, _⟩) (v := ?va11) rfl (by kernel_rfl) (by kernel_rfl) (by kernel_rfl) (fun _ _ _ h => h) (Or.inl ⟨by rfl, ?hya11⟩) (by exact hS) ?rea11
  case hya11 => (intro ww hSw; (try dsimp only at hSw); go_simp; first | done | with_reducible rfl)
  try simp only [Act.put, List.setIfInBounds_toArray, List.set_cons_zero, List.set_cons_succ]
  refine wpAnyH_take (i := 12) (oi := ⟨some 17, _, _, _, _, _⟩) (v := ?va12) rfl (by kernel_rfl) (by kernel_rfl) (by kernel_rfl) (fun _ _ _ h => h) (Or.inl ⟨by rfl, ?hya12⟩) (by exact hS) ?rea12
  case hya12 => (intro ww hSw; (try dsimp only at hSw); go_simp; first | done | with_reducible rfl)
  try simp only [Act.put, List.setIfInBounds_toArray, List.set_cons_zero, List.set_cons_succ]
  refine wpAnyH_take (i := 13) (oi := ⟨some 18, _, _, _, _, _⟩) (v := ?va13) rfl (by kernel_rfl) (by kernel_rfl) (by kernel_rfl) (fun _ _ _ h => h) (Or.inl ⟨by rfl, ?hya13⟩) (by exact hS) ?rea13
  case hya13 => (intro ww hSw; (try dsimp only at hSw); go_simp; first | done | with_reducible rfl)
  try simp only [Act.put, List.setIfInBounds_toArray, List.set_cons_zero, List.set_cons_succ]
  refine wpAnyH_take (i := 14) (oi := ⟨some 19, _, _, _, _, _⟩) (v := ?va14) rfl (by kernel_rfl) (by kernel_rfl) (by kernel_rfl) (fun _ _ _ h => h) (Or.inl ⟨by rfl, ?hya14⟩) (by exact hS) ?rea14
  case hya14 => (intro ww hSw; (try dsimp only at hSw); go_simp; first | done | with_reducible rfl)
  try simp only [Act.put, List.setIfInBounds_toArray, List.set_cons_zero, List.set_cons_succ]
  refine wpAnyH_take (i := 15) (oi := ⟨some 20, _, _, _, _, _⟩) (v := ?va15) rfl (by kernel_rfl) (by kernel_rfl) (by kernel_rfl) (fun _ _ _ h => h) (Or.inl ⟨by rfl, ?hya15⟩) (by exact hS) ?rea15
  case hya15 => (intro ww hSw; (try dsimp only at hSw); go_simp; first | done | with_reducible rfl)
  try simp only [Act.put, List.setIfInBounds_toArray, List.set_cons_zero, List.set_cons_succ]
  refine wpAnyH_take (i := 16) (oi := ⟨some 21, _, _, _, _, _⟩) (v := ?va16) rfl (by kernel_rfl) (by kernel_rfl) (by kernel_rfl) (fun _ _ _ h => h) (Or.inl ⟨by rfl, ?hya16⟩) (by exact hS) ?rea16
  case hya16 => (intro ww hSw; (try dsimp only at hSw); go_simp; first | done | with_reducible rfl)
  try simp only [Act.put, List.setIfInBounds_toArray, List.set_cons_zero, List.set_cons_succ]
  refine wpAnyH_take (i := 17) (oi := ⟨some 22, _, _, _, _, _⟩) (v := ?va17) rfl (by kernel_rfl) (by kernel_rfl) (by kernel_rfl) (fun _ _ _ h => h) (Or.inl ⟨by rfl, ?hya17⟩) (by exact hS) ?rea17
  case hya17 => (intro ww hSw; (try dsimp only at hSw); go_simp; first | done | with_reducible rfl)
  try simp only [Act.put, List.setIfInBounds_toArray, List.set_cons_zero, List.set_cons_succ]
  refine wpAnyH_take (i := 18) (oi := ⟨some 23, _, _, _, _, _⟩) (v := ?va18) rfl (by kernel_rfl) (by kernel_rfl) (by kernel_rfl) (fun _ _ _ h => h) (Or.inl ⟨by rfl, ?hya18⟩) (by exact hS) ?rea18
  case hya18 => (intro ww hSw; (try dsimp only at hSw); go_simp; first | done | with_reducible rfl)
  try simp only [Act.put, List.setIfInBounds_toArray, List.set_cons_zero, List.set_cons_succ]
  refine wpAnyH_take (i := 19) (oi := ⟨some 24, _, _, _, _, _⟩) (v := ?va19) rfl (by kernel_rfl) (by kernel_rfl) (by kernel_rfl) (fun _ _ _ h => h) (Or.inl ⟨by rfl, ?hya19⟩) (by exact hS) ?rea19
  case hya19 => (intro ww hSw; (try dsimp only at hSw); go_simp; first | done | with_reducible rfl)
  try simp only [Act.put, List.setIfInBounds_toArray, List.set_cons_zero, List.set_cons_succ]
  refine wpAnyH_take (i := 20) (oi := ⟨some 25, _, _, _, _, _⟩) (v := ?va20) rfl (by kernel_rfl) (by kernel_rfl) (by kernel_rfl) (fun _ _ _ h => h) (Or.inl ⟨by rfl, ?hya20⟩) (by exact hS) ?rea20
  case hya20 => (intro ww hSw; (try dsimp only at hSw); go_simp; first | done | with_reducible rfl)
  try simp only [Act.put, List.setIfInBounds_toArray, List.set_cons_zero, List.set_cons_succ]
  refine wpAnyH_take (i := 21) (oi := ⟨some 26, _, _, _, _, _⟩) (v := ?va21) rfl (by kernel_rfl) (by kernel_rfl) (by kernel_rfl) (fun _ _ _ h => h) (Or.inl ⟨by rfl, ?hya21⟩) (by exact hS) ?rea21
  case hya21 => (intro ww hSw; (try dsimp only at hSw); go_simp; first | done | with_reducible rfl)
  try simp only [Act.put, List.setIfInBounds_toArray, List.set_cons_zero, List.set_cons_succ]
  refine wpAnyH_take (i := 22) (oi := ⟨some 27, _, _, _, _, _⟩) (v := ?va22) rfl (by kernel_rfl) (by kernel_rfl) (by kernel_rfl) (fun _ _ _ h => h) (Or.inl ⟨by rfl, ?hya22⟩) (by exact hS) ?rea22
  case hya22 => (intro ww hSw; (try dsimp only at hSw); go_simp; first | done | with_reducible rfl)
  try simp only [Act.put, List.setIfInBounds_toArray, List.set_cons_zero, List.set_cons_succ]
  refine wpAnyH_take (i := 23) (oi := ⟨some 28, _, _, _, _, _⟩) (v := ?va23) rfl (by kernel_rfl) (by kernel_rfl) (by kernel_rfl) (fun _ _ _ h => h) (Or.inl ⟨by rfl, ?hya23⟩) (by exact hS) ?rea23
  case hya23 => (intro ww hSw; (try dsimp only at hSw); go_simp; first | done | with_reducible rfl)
  try simp only [Act.put, List.setIfInBounds_toArray, List.set_cons_zero, List.set_cons_succ]
  refine wpAnyH_take (i := 24) (oi := ⟨some 29, _, _, _, _, _⟩) (v := ?va24) rfl (by kernel_rfl) (by kernel_rfl) (by kernel_rfl) (fun _ _ _ h => h) (Or.inl ⟨by rfl, ?hya24⟩) (by exact hS) ?rea24
  case hya24 => (intro ww hSw; (try dsimp only at hSw); go_simp; first | done | with_reducible rfl)
  try simp only [Act.put, List.setIfInBounds_toArray, List.set_cons_zero, List.set_cons_succ]
  refine wpAnyH_take (i := 25) (oi := ⟨some 30, _, _, _, _, _⟩) (v := ?va25) rfl (by kernel_rfl) (by kernel_rfl) (by kernel_rfl) (fun _ _ _ h => h) (Or.inl ⟨by rfl, ?hya25⟩) (by exact hS) ?rea25
  case hya25 => (intro ww hSw; (try dsimp only at hSw); go_simp; first | done | with_reducible rfl)
  try simp only [Act.put, List.setIfInBounds_toArray, List.set_cons_zero, List.set_cons_succ]
  refine wpAnyH_take (i := 26) (oi := ⟨some 31, _, _, _, _, _⟩) (v := ?va26) rfl (by kernel_rfl) (by kernel_rfl) (by kernel_rfl) (fun _ _ _ h => h) (Or.inl ⟨by rfl, ?hya26⟩) (by exact hS) ?rea26
  case hya26 => (intro ww hSw; (try dsimp only at hSw); go_simp; first | done | with_reducible rfl)
  try simp only [Act.put, List.setIfInBounds_toArray, List.set_cons_zero, List.set_cons_succ]
  refine wpAnyH_take (i := 27) (oi := ⟨some 32, _, _, _, _, _⟩) (v := ?va27) rfl (by kernel_rfl) (by kernel_rfl) (by kernel_rfl) (fun _ _ _ h => h) (Or.inl ⟨by rfl, ?hya27⟩) (by exact hS) ?rea27
  case hya27 => (intro ww hSw; (try dsimp only at hSw); go_simp; first | done | with_reducible rfl)
  try simp only [Act.put, List.setIfInBounds_toArray, List.set_cons_zero, List.set_cons_succ]
  refine wpAnyH_take (i := 29) (oi := ⟨some 34, _, _, _, _, _⟩) (v := ?va29) rfl (by kernel_rfl) (by kernel_rfl) (by kernel_rfl) (fun _ _ _ h => h) (Or.inl ⟨by rfl, ?hya29⟩) (by exact hS) ?rea29
  case hya29 => (intro ww hSw; (try dsimp only at hSw); go_simp; first | done | with_reducible rfl)
  try simp only [Act.put, List.setIfInBounds_toArray, List.set_cons_zero, List.set_cons_succ]
  refine wpAnyH_ready (rs := [28]) (by kernel_rfl) (by simp) ?_
  refine AllReadyH.cons rfl (fun Ka hKa => ?_) AllReadyH.nil
  go_simp
  refine (flags_any _ _ _ _ _ _ _ _ _ _ _ _ _ _ _ _).mono ?_
  rintro e w1 ⟨rfl, hbA⟩
  have hRA := Lib.hid (below_call HR.drew hbA)
  refine hKa.out _ _ ⟨bcell (hRA.out) gx0.out, bcell (hRA.out) gx1.out, bcell (hRA.out) gx2.out, bcell (hRA.out) gx3.out, bcell (hRA.out) gx4.out, bcell (hRA.out) gx5.out, bcell (hRA.out) gx6.out, bcell (hRA.out) gx7.out, bcell (hRA.out) gx8.out, bcell (hRA.out) gx9.out, bcell (hRA.out) gx10.out, bcell (hRA.out) gx11.out, bcell (hRA.out) gx12.out, bcell (hRA.out) gy0.out, bcell (hRA.out) gy1.out, bcell (hRA.out) gy2.out, bcell (hRA.out) gy3.out, bcell (hRA.out) gy4.out, bcell (hRA.out) gy5.out, bcell (hRA.out) gy6.out, bcell (hRA.out) gy7.out, bcell (hRA.out) gy8.out, bcell (hRA.out) gy9.out, bcell (hRA.out) gy10.out, bcell (hRA.out) gy11.out, bcell (hRA.out) gy12.out, hRA.out⟩ (fun h1 => ?_)
  try simp only [Act.put, List.setIfInBounds_toArray, List.set_cons_zero, List.set_cons_succ]
  refine wpAnyH_ready (rs := [30]) (by kernel_rfl) (by simp) ?_
  refine AllReadyH.cons rfl (fun Kb hKb => ?_) AllReadyH.nil
  go_simp
  refine (flags_any _ _ _ _ _ _ _ _ _ _ _ _ _ _ _ _).mono ?_
  rintro e w2 ⟨rfl, hbB⟩
  have hRB := Lib.hid (below_call hRA.out hbB)
  refine hKb.out _ _ ⟨bcell (hRB.out) gx0.out, bcell (hRB.out) gx1.out, bcell (hRB.out) gx2.out, bcell (hRB.out) gx3.out, bcell (hRB.out) gx4.out, bcell (hRB.out) gx5.out, bcell (hRB.out) gx6.out, bcell (hRB.out) gx7.out, bcell (hRB.out) gx8.out, bcell (hRB.out) gx9.out, bcell (hRB.out) gx10.out, bcell (hRB.out) gx11.out, bcell (hRB.out) gx12.out, bcell (hRB.out) gy0.out, bcell (hRB.out) gy1.out, bcell (hRB.out) gy2.out, bcell (hRB.out) gy3.out, bcell (hRB.out) gy4.out, bcell (hRB.out) gy5.out, bcell (hRB.out) gy6.out, bcell (hRB.out) gy7.out, bcell (hRB.out) gy8.out, bcell (hRB.out) gy9.out, bcell (hRB.out) gy10.out, bcell (hRB.out) gy11.out, bcell (hRB.out) gy12.out, hRB.out⟩ (fun h2 => ?_)
  try simp only [Act.put, List.setIfInBounds_toArray, List.set_cons_zero, List.set_cons_succ]
  clear h1 hbA hbB
  refine wpAnyH_take (i := 31) (oi := ⟨some 36, _, _, _, _, _⟩) (v := ?vc31) rfl (by kernel_rfl) (by kernel_rfl) (by kernel_rfl) (fun _ _ _ h => h) (Or.inl ⟨by rfl, ?hyc31⟩) (by exact h2) ?rec31
  case hyc31 => (intro ww hSw; (try dsimp only at hSw); go_simp; first | done | with_reducible rfl)
  try simp only [Act.put, List.setIfInBounds_toArray, List.set_cons_zero, List.set_cons_succ]
  refine wpAnyH_take (i := 32) (oi := ⟨some 37, _, _, _, _, _⟩) (v := ?vc32) rfl (by kernel_rfl) (by kernel_rfl) (by kernel_rfl) (fun _ _ _ h => h) (Or.inl ⟨by rfl, ?hyc32⟩) (by exact h2) ?rec32
  case hyc32 => (intro ww hSw; (try dsimp only at hSw); go_simp; first | done | with_reducible rfl)
  try simp only [Act.put, List.setIfInBounds_toArray, List.set_cons_zero, List.set_cons_succ]
  refine wpAnyH_take (i := 33) (oi := ⟨some 38, _, _, _, _, _⟩) (v := ?vc33) rfl (by kernel_rfl) (by kernel_rfl) (by kernel_rfl) (fun _ _ _ h => h) (Or.inl ⟨by rfl, ?hyc33⟩) (by exact h2) ?rec33
  case hyc33 => (intro ww hSw; (try dsimp only at hSw); go_simp; first | done | with_reducible rfl)
  try simp only [Act.put, List.setIfInBounds_toArray, List.set_cons_zero, List.set_cons_succ]
  refine wpAnyH_take (i := 34) (oi := ⟨some 39, _, _, _, _, _⟩) (v := ?vc34) rfl (by kernel_rfl) (by kernel_rfl) (by kernel_rfl) (fun _ _ _ h => h) (Or.inl ⟨by rfl, ?hyc34⟩) (by exact h2) ?rec34
  case hyc34 => (intro ww hSw; (try dsimp only at hSw); go_simp; first | done | with_reducible rfl)
  try simp only [Act.put, List.setIfInBounds_toArray, List.set_cons_zero, List.set_cons_succ]
  refine wpAnyH_take (i := 35) (oi := ⟨some 40, _, _, _, _, _⟩) (v := ?vc35) rfl (by kernel_rfl) (by kernel_rfl) (by kernel_rfl) (fun _ _ _ h => h) (Or.inl ⟨by rfl, ?hyc35⟩) (by exact h2) ?rec35
  case hyc35 => (intro ww hSw; (try dsimp only at hSw); go_simp; first | done | with_reducible rfl)
  try simp only [Act.put, List.setIfInBounds_toArray, List.set_cons_zero, List.set_cons_succ]
  refine wpAnyH_take (i := 36) (oi := ⟨some 41, _, _, _, _, _⟩) (v := ?vc36) rfl (by kernel_rfl) (by kernel_rfl) (by kernel_rfl) (fun _ _ _ h => h) (Or.inl ⟨by rfl, ?hyc36⟩) (by exact h2) ?rec36
  case hyc36 => (intro ww hSw; (try dsimp only at hSw); go_simp; first | done | with_reducible rfl)
  try simp only [Act.put, List.setIfInBounds_toArray, List.set_cons_zero, List.set_cons_succ]
  refine wpAnyH_take (i := 37) (oi := ⟨some 42, _, _, _, _, _⟩) (v := ?vc37) rfl (by kernel_rfl) (by kernel_rfl) (by kernel_rfl) (fun _ _ _ h => h) (Or.inl ⟨by rfl, ?hyc37⟩) (by exact h2) ?rec37
  case hyc37 => (intro ww hSw; (try dsimp only at hSw); go_simp; first | done | with_reducible rfl)
  try simp only [Act.put, List.setIfInBounds_toArray, List.set_cons_zero, List.set_cons_succ]
  refine wpAnyH_take (i := 38) (oi := ⟨some 43, _, _, _, _, _⟩) (v := ?vc38) rfl (by kernel_rfl) (by kernel_rfl) (by kernel_rfl) (fun _ _ _ h => h) (Or.inl ⟨by rfl, ?hyc38⟩) (by exact h2) ?rec38
  case hyc38 => (intro ww hSw; (try dsimp only at hSw); go_simp; first | done | with_reducible rfl)
  try simp only [Act.put, List.setIfInBounds_toArray, List.set_cons_zero, List.set_cons_succ]
  refine wpAnyH_take (i := 39) (oi := ⟨some 44, _, _, _, _, _⟩) (v := ?vc39) rfl (by kernel_rfl) (by kernel_rfl) (by kernel_rfl) (fun _ _ _ h => h) (Or.inl ⟨by rfl, ?hyc39⟩) (by exact h2) ?rec39
  case hyc39 => (intro ww hSw; (try dsimp only at hSw); go_simp; first | done | with_reducible rfl)
  try simp only [Act.put, List.setIfInBounds_toArray, List.set_cons_zero, List.set_cons_succ]
  refine wpAnyH_take (i := 40) (oi := ⟨some 45, _, _, _, _, _⟩) (v := ?vc40) rfl (by kernel_rfl) (by kernel_rfl) (by kernel_rfl) (fun _ _ _ h => h) (Or.inl ⟨by rfl, ?hyc40⟩) (by exact h2) ?rec40
  case hyc40 => (intro ww hSw; (try dsimp only at hSw); go_simp; first | done | with_reducible rfl)
  try simp only [Act.put, List.setIfInBounds_toArray, List.set_cons_zero, List.set_cons_succ]
  refine wpAnyH_take (i := 41) (oi := ⟨some 46, _, _, _, _, _⟩) (v := undef) rfl (by kernel_rfl) (by kernel_rfl) (by kernel_rfl) (fun _ _ _ h => h) (Or.inr ⟨by rfl, rfl⟩) (by exact h2) ?_
  try simp only [Act.put, List.setIfInBounds_toArray, List.set_cons_zero, List.set_cons_succ]
  refine wpAnyH_take (i := 42) (oi := ⟨some 47, _, _, _, _, _⟩) (v := undef) rfl (by kernel_rfl) (by kernel_rfl) (by kernel_rfl) (fun _ _ _ h => h) (Or.inr ⟨by rfl, rfl⟩) (by exact h2) ?_
  try simp only [Act.put, List.setIfInBounds_toArray, List.set_cons_zero, List.set_cons_succ]
  refine wpAnyH_take (i := 43) (oi := ⟨some 48, _, _, _, _, _⟩) (v := undef) rfl (by kernel_rfl) (by kernel_rfl) (by kernel_rfl) (fun _ _ _ h => h) (Or.inr ⟨by rfl, rfl⟩) (by exact h2) ?_
  try simp only [Act.put, List.setIfInBounds_toArray, List.set_cons_zero, List.set_cons_succ]
  refine wpAnyH_take (i := 44) (oi := ⟨some 49, _, _, _, _, _⟩) (v := undef) rfl (by kernel_rfl) (by kernel_rfl) (by kernel_rfl) (fun _ _ _ h => h) (Or.inr ⟨by rfl, rfl⟩) (by exact h2) ?_
  try simp only [Act.put, List.setIfInBounds_toArray, List.set_cons_zero, List.set_cons_succ]
  refine wpAnyH_take (i := 45) (oi := ⟨some 50, _, _, _, _, _⟩) (v := undef) rfl (by kernel_rfl) (by kernel_rfl) (by kernel_rfl) (fun _ _ _ h => h) (Or.inr ⟨by rfl, rfl⟩) (by exact h2) ?_
  try simp only [Act.put, List.setIfInBounds_toArray, List.set_cons_zero, List.set_cons_succ]
  refine wpAnyH_take (i := 46) (oi := ⟨some 51, _, _, _, _, _⟩) (v := ?vc46) rfl (by kernel_rfl) (by kernel_rfl) (by kernel_rfl) (fun _ _ _ h => h) (Or.inl ⟨by rfl, ?hyc46⟩) (by exact h2) ?rec46
  case hyc46 => (intro ww hSw; (try dsimp only at hSw); go_simp; first | done | with_reducible rfl)
  try simp only [Act.put, List.setIfInBounds_toArray, List.set_cons_zero, List.set_cons_succ]
  refine wpAnyH_take (i := 47) (oi := ⟨some 52, _, _, _, _, _⟩) (v := ?vc47) rfl (by kernel_rfl) (by kernel_rfl) (by kernel_rfl) (fun _ _ _ h => h) (Or.inl ⟨by rfl, ?hyc47⟩) (by exact h2) ?rec47
  case hyc47 => (intro ww hSw; (try dsimp only at hSw); go_simp; first | done | with_reducible rfl)
  try simp only [Act.put, List.setIfInBounds_toArray, List.set_cons_zero, List.set_cons_succ]
  refine wpAnyH_take (i := 48) (oi := ⟨some 53, _, _, _, _, _⟩) (v := undef) rfl (by kernel_rfl) (by kernel_rfl) (by kernel_rfl) (fun _ _ _ h => h) (Or.inr ⟨by rfl, rfl⟩) (by exact h2) ?_
  try simp only [Act.put, List.setIfInBounds_toArray, List.set_cons_zero, List.set_cons_succ]
  refine wpAnyH_take (i := 49) (oi := ⟨some 54, _, _, _, _, _⟩) (v := undef) rfl (by kernel_rfl) (by kernel_rfl) (by kernel_rfl) (fun _ _ _ h => h) (Or.inr ⟨by rfl, rfl⟩) (by exact h2) ?_
  try simp only [Act.put, List.setIfInBounds_toArray, List.set_cons_zero, List.set_cons_succ]
  refine wpAnyH_take (i := 50) (oi := ⟨some 55, _, _, _, _, _⟩) (v := undef) rfl (by kernel_rfl) (by kernel_rfl) (by kernel_rfl) (fun _ _ _ h => h) (Or.inr ⟨by rfl, rfl⟩) (by exact h2) ?_
  try simp only [Act.put, List.setIfInBounds_toArray, List.set_cons_zero, List.set_cons_succ]
  refine wpAnyH_take (i := 51) (oi := ⟨some 56, _, _, _, _, _⟩) (v := undef) rfl (by kernel_rfl) (by kernel_rfl) (by kernel_rfl) (fun _ _ _ h => h) (Or.inr ⟨by rfl, rfl⟩) (by exact h2) ?_
  try simp only [Act.put, List.setIfInBounds_toArray, List.set_cons_zero, List.set_cons_succ]
  refine wpAnyH_take (i := 52) (oi := ⟨some 57, _, _, _, _, _⟩) (v := undef) rfl (by kernel_rfl) (by kernel_rfl) (by kernel_rfl) (fun _ _ _ h => h) (Or.inr ⟨by rfl, rfl⟩) (by exact h2) ?_
  try simp only [Act.put, List.setIfInBounds_toArray, List.set_cons_zero, List.set_cons_succ]
  refine wpAnyH_take (i := 53) (oi := ⟨some 58, _, _, _, _, _⟩) (v := ?vc53) rfl (by kernel_rfl) (by kernel_rfl) (by kernel_rfl) (fun _ _ _ h => h) (Or.inl ⟨by rfl, ?hyc53⟩) (by exact h2) ?rec53
  case hyc53 => (intro ww hSw; (try dsimp only at hSw); go_simp; first | done | with_reducible rfl)
  try simp only [Act.put, List.setIfInBounds_toArray, List.set_cons_zero, List.set_cons_succ]
  refine wpAnyH_take (i := 54) (oi := ⟨some 59, _, _, _, _, _⟩) (v := ?vc54) rfl (by kernel_rfl) (by kernel_rfl) (by kernel_rfl) (fun _ _ _ h => h) (Or.inl ⟨by rfl, ?hyc54⟩) (by exact h2) ?rec54
  case hyc54 => (intro ww hSw; (try dsimp only at hSw); go_simp; first | done | with_reducible rfl)
  try simp only [Act.put, List.setIfInBounds_toArray, List.set_cons_zero, List.set_cons_succ]
  refine wpAnyH_take (i := 55) (oi := ⟨some 60, _, _, _, _, _⟩) (v := undef) rfl (by kernel_rfl) (by kernel_rfl) (by kernel_rfl) (fun _ _ _ h => h) (Or.inr ⟨by rfl, rfl⟩) (by exact h2) ?_
  try simp only [Act.put, List.setIfInBounds_toArray, List.set_cons_zero, List.set_cons_succ]
  refine wpAnyH_take (i := 56) (oi := ⟨some 61, _, _, _, _, _⟩) (v := undef) rfl (by kernel_rfl) (by kernel_rfl) (by kernel_rfl) (fun _ _ _ h => h) (Or.inr ⟨by rfl, rfl⟩) (by exact h2) ?_
  try simp only [Act.put, List.setIfInBounds_toArray, List.set_cons_zero, List.set_cons_succ]
  refine wpAnyH_take (i := 57) (oi := ⟨some 62, _, _, _, _, _⟩) (v := undef) rfl (by kernel_rfl) (by kernel_rfl) (by kernel_rfl) (fun _ _ _ h => h) (Or.inr ⟨by rfl, rfl⟩) (by exact h2) ?_
  try simp only [Act.put, List.setIfInBounds_toArray, List.set_cons_zero, List.set_cons_succ]
  refine wpAnyH_take (i := 58) (oi := ⟨some 63, _, _, _, _, _⟩) (v := undef) rfl (by kernel_rfl) (by kernel_rfl) (by kernel_rfl) (fun _ _ _ h => h) (Or.inr ⟨by rfl, rfl⟩) (by exact h2) ?_
  try simp only [Act.put, List.setIfInBounds_toArray, List.set_cons_zero, List.set_cons_succ]
  refine wpAnyH_take (i := 59) (oi := ⟨some 64, _, _, _, _, _⟩) (v := undef) rfl (by kernel_rfl) (by kernel_rfl) (by kernel_rfl) (fun _ _ _ h => h) (Or.inr ⟨by rfl, rfl⟩) (by exact h2) ?_
  try simp only [Act.put, List.setIfInBounds_toArray, List.set_cons_zero, List.set_cons_succ]
  refine wpAnyH_take (i := 60) (oi := ⟨some 65, _, _, _, _, _⟩) (v := ?vc60) rfl (by kernel_rfl) (by kernel_rfl) (by kernel_rfl) (fun _ _ _ h => h) (Or.inl ⟨by rfl, ?hyc60⟩) (by exact h2) ?rec60
  case hyc60 => (intro ww hSw; (try dsimp only at hSw); go_simp; first | done | with_reducible rfl)
  try simp only [Act.put, List.setIfInBounds_toArray, List.set_cons_zero, List.set_cons_succ]
  refine wpAnyH_take (i := 61) (oi := ⟨some 4, _, _, _, _, _⟩) (v := ?vc61) rfl (by kernel_rfl) (by kernel_rfl) (by kernel_rfl) (fun _ _ _ h => h) (Or.inl ⟨by rfl, ?hyc61⟩) (by exact h2) ?rec61
  case hyc61 => (intro ww hSw; (try dsimp only at hSw); go_simp; first | done | with_reducible rfl)
  try simp only [Act.put, List.setIfInBounds_toArray, List.set_cons_zero, List.set_cons_succ]
  refine wpAnyH_done (by kernel_rfl) ?_ _
  go_wp2_with fail
  go_ret
  exact ⟨rfl, below_call HB hRB.out⟩
set_option maxRecDepth 100000 in
set_option maxHeartbeats 4000000 in
theorem same_c6 (x y : Seg) (A A' : Option Addr) (c c' : Nat) (w : World) (hn : x.bl.length ≤ 9223372036854775807) (h0 : x.fp = y.fp) (h1 : x.tp = y.tp) (h2 : x.sq = y.sq) (h3 : x.ack = y.ack) (h4 : x.syn = y.syn ∧ x.fin = y.fin ∧ x.rst = y.rst ∧ x.ha = y.ha ∧ x.sacks = y.sacks) (h5 : x.win = y.win) (h6 : ¬ (x.mss = y.mss)) (hb : Bks w A x.bl.length x.bl) (hb' : Bks w A' y.bl.length y.bl) :
    Calls Try.prog 18 #[.agg #[.int .i64 x.fp, .int .i64 x.tp, .int .i64 x.sq, .int .i64 x.ack, .bool x.syn, .bool x.fin, .bool x.rst, .bool x.ha, .int .i64 x.win, .int .i64 x.mss, .bool x.sacks, .slice A x.bl.length c, .string x.s], .agg #[.int .i64 y.fp, .int .i64 y.tp, .int .i64 y.sq, .int .i64 y.ack, .bool y.syn, .bool y.fin, .bool y.rst, .bool y.ha, .int .i64 y.win, .int .i64 y.mss, .bool y.sacks, .slice A' y.bl.length c', .string y.s]] w fun e w' => e = .returned (.bool false) ∧ Below w.heap.size w w' := by
  have _u := hb; have _v := hb'; have _t := hn; clear _u _v _t hb hb' hn
  have Hx := Lib.hid (block_alloc (alloc_new w (.cells #[.int .i64 x.fp, .int .i64 x.tp, .int .i64 x.sq, .int .i64 x.ack, .bool x.syn, .bool x.fin, .bool x.rst, .bool x.ha, .int .i64 x.win, .int .i64 x.mss, .bool x.sacks, .slice A x.bl.length c, .string x.s] 24)) (.cells #[.int .i64 y.fp, .int .i64 y.tp, .int .i64 y.sq, .int .i64 y.ack, .bool y.syn, .bool y.fin, .bool y.rst, .bool y.ha, .int .i64 y.win, .int .i64 y.mss, .bool y.sacks, .slice A' y.bl.length c', .string y.s] 24))
  have Hy := Lib.hid (alloc_new' (w.alloc (.cells #[.int .i64 x.fp, .int .i64 x.tp, .int .i64 x.sq, .int .i64 x.ack, .bool x.syn, .bool x.fin, .bool x.rst, .bool x.ha, .int .i64 x.win, .int .i64 x.mss, .bool x.sacks, .slice A x.bl.length c, .string x.s] 24)) (.cells #[.int .i64 y.fp, .int .i64 y.tp, .int .i64 y.sq, .int .i64 y.ack, .bool y.syn, .bool y.fin, .bool y.rst, .bool y.ha, .int .i64 y.win, .int .i64 y.mss, .bool y.sacks, .slice A' y.bl.length c', .string y.s] 24) (w.heap.size + 1) (by simp))
  have HB := below_alloc (o := .cells #[.int .i64 y.fp, .int .i64 y.tp, .int .i64 y.sq, .int .i64 y.ack, .bool y.syn, .bool y.fin, .bool y.rst, .bool y.ha, .int .i64 y.win, .int .i64 y.mss, .bool y.sacks, .slice A' y.bl.length c', .string y.s] 24) (below_alloc (o := .cells #[.int .i64 x.fp, .int .i64 x.tp, .int .i64 x.sq, .int .i64 x.ack, .bool x.syn, .bool x.fin, .bool x.rst, .bool x.ha, .int .i64 x.win, .int .i64 x.mss, .bool x.sacks, .slice A x.bl.length c, .string x.s] 24) (Below.refl w.heap.size w))
  have q0 : (x.fp == y.fp) = true := beq_iff_eq.2 h0
  have q1 : (x.tp == y.tp) = true := beq_iff_eq.2 h1
  have q2 : (x.sq == y.sq) = true := beq_iff_eq.2 h2
  have q3 : (x.ack == y.ack) = true := beq_iff_eq.2 h3
  have he : ∀ W : World, (binOp .eql 60 (.agg #[.bool x.syn, .bool x.fin, .bool x.rst, .bool x.ha, .bool x.sacks]) (.agg #[.bool y.syn, .bool y.fin, .bool y.rst, .bool y.ha, .bool y.sacks])).run Try.prog W = .ok (.bool true) W := fun W => flags_eq2 _ _ _ _ _ _ _ _ _ _ h4 W
  have q5 : (x.win == y.win) = true := beq_iff_eq.2 h5
  have q6 : (x.mss == y.mss) = false := beq_eq_false_iff_ne.2 h6
  clear h0 h1 h2 h3 h4 h5 h6
  go_enter Try.func18, Try.ntmps18
  go_wp2_with fail
  generalize ((w.alloc (.cells #[.int .i64 x.fp, .int .i64 x.tp, .int .i64 x.sq, .int .i64 x.ack, .bool x.syn, .bool x.fin, .bool x.rst, .bool x.ha, .int .i64 x.win, .int .i64 x.mss, .bool x.sacks, .slice A x.bl.length c, .string x.s] 24)).alloc (.cells #[.int .i64 y.fp, .int .i64 y.tp, .int .i64 y.sq, .int .i64 y.ack, .bool y.syn, .bool y.fin, .bool y.rst, .bool y.ha, .int .i64 y.win, .int .i64 y.mss, .bool y.sacks, .slice A' y.bl.length c', .string y.s] 24)) = w0 at *
  have HR := Below.refl w0.heap.size w0
  have gx0 : Hid (w0.cell? ⟨w.heap.size, 0, none⟩ = some (.int .i64 x.fp)) := Lib.hid (cell_of_block (k := 0) Hx.out rfl).1
  have gx1 : Hid (w0.cell? ⟨w.heap.size, 1, none⟩ = some (.int .i64 x.tp)) := Lib.hid (cell_of_block (k := 1) Hx.out rfl).1
  have gx2 : Hid (w0.cell? ⟨w.heap.size, 2, none⟩ = some (.int .i64 x.sq)) := Lib.hid (cell_of_block (k := 2) Hx.out rfl).1
  have gx3 : Hid (w0.cell? ⟨w.heap.size, 3, none⟩ = some (.int .i64 x.ack)) := Lib.hid (cell_of_block (k := 3) Hx.out rfl).1
  have gx4 : Hid (w0.cell? ⟨w.heap.size, 4, none⟩ = some (.bool x.syn)) := Lib.hid (cell_of_block (k := 4) Hx.out rfl).1
  have gx5 : Hid (w0.cell? ⟨w.heap.size, 5, none⟩ = some (.bool x.fin)) := Lib.hid (cell_of_block (k := 5) Hx.out rfl).1
  have gx6 : Hid (w0.cell? ⟨w.heap.size, 6, none⟩ = some (.bool x.rst)) := Lib.hid (cell_of_block (k := 6) Hx.out rfl).1
  have gx7 : Hid (w0.cell? ⟨w.heap.size, 7, none⟩ = some (.bool x.ha)) := Lib.hid (cell_of_block (k := 7) Hx.out rfl).1
  have gx8 : Hid (w0.cell? ⟨w.heap.size, 8, none⟩ = some (.int .i64 x.win)) := Lib.hid (cell_of_block (k := 8) Hx.out rfl).1
  have gx9 : Hid (w0.cell? ⟨w.heap.size, 9, none⟩ = some (.int .i64 x.mss)) := Lib.hid (cell_of_block (k := 9) Hx.out rfl).1
  have gx10 : Hid (w0.cell? ⟨w.heap.size, 10, none⟩ = some (.bool x.sacks)) := Lib.hid (cell_of_block (k := 10) Hx.out rfl).1
  have gx11 : Hid (w0.cell? ⟨w.heap.size, 11, none⟩ = some (.slice A x.bl.length c)) := Lib.hid (cell_of_block (k := 11) Hx.out rfl).1
  have gx12 : Hid (w0.cell? ⟨w.heap.size, 12, none⟩ = some (.string x.s)) := Lib.hid (cell_of_block (k := 12) Hx.out rfl).1
  have gy0 : Hid (w0.cell? ⟨w.heap.size + 1, 0, none⟩ = some (.int .i64 y.fp)) := Lib.hid (cell_of_block (k := 0) Hy.out rfl).1
  have gy1 : Hid (w0.cell? ⟨w.heap.size + 1, 1, none⟩ = some (.int .i64 y.tp)) := Lib.hid (cell_of_block (k := 1) Hy.out rfl).1
  have gy2 : Hid (w0.cell? ⟨w.heap.size + 1, 2, none⟩ = some (.int .i64 y.sq)) := Lib.hid (cell_of_block (k := 2) Hy.out rfl).1
  have gy3 : Hid (w0.cell? ⟨w.heap.size + 1, 3, none⟩ = some (.int .i64 y.ack)) := Lib.hid (cell_of_block (k := 3) Hy.out rfl).1
  have gy4 : Hid (w0.cell? ⟨w.heap.size + 1, 4, none⟩ = some (.bool y.syn)) := Lib.hid (cell_of_block (k := 4) Hy.out rfl).1
  have gy5 : Hid (w0.cell? ⟨w.heap.size + 1, 5, none⟩ = some (.bool y.fin)) := Lib.hid (cell_of_block (k := 5) Hy.out rfl).1
  have gy6 : Hid (w0.cell? ⟨w.heap.size + 1, 6, none⟩ = some (.bool y.rst)) := Lib.hid (cell_of_block (k := 6) Hy.out rfl).1
  have gy7 : Hid (w0.cell? ⟨w.heap.size + 1, 7, none⟩ = some (.bool y.ha)) := Lib.hid (cell_of_block (k := 7) Hy.out rfl).1
  have gy8 : Hid (w0.cell? ⟨w.heap.size + 1, 8, none⟩ = some (.int .i64 y.win)) := Lib.hid (cell_of_block (k := 8) Hy.out rfl).1
  have gy9 : Hid (w0.cell? ⟨w.heap.size + 1, 9, none⟩ = some (.int .i64 y.mss)) := Lib.hid (cell_of_block (k := 9) Hy.out rfl).1
  have gy10 : Hid (w0.cell? ⟨w.heap.size + 1, 10, none⟩ = some (.bool y.sacks)) := Lib.hid (cell_of_block (k := 10) Hy.out rfl).1
  have gy11 : Hid (w0.cell? ⟨w.heap.size + 1, 11, none⟩ = some (.slice A' y.bl.length c')) := Lib.hid (cell_of_block (k := 11) Hy.out rfl).1
  have gy12 : Hid (w0.cell? ⟨w.heap.size + 1, 12, none⟩ = some (.string y.s)) := Lib.hid (cell_of_block (k := 12) Hy.out rfl).1
  refine wp_region_held_drew (S := (fun w' => w'.cell? ⟨w.heap.size, 0, none⟩ = some (.int .i64 x.fp) ∧ w'.cell? ⟨w.heap.size, 1, none⟩ = some (.int .i64 x.tp) ∧ w'.cell? ⟨w.heap.size, 2, none⟩ = some (.int .i64 x.sq) ∧ w'.cell? ⟨w.heap.size, 3, none⟩ = some (.int .i64 x.ack) ∧ w'.cell? ⟨w.heap.size, 4, none⟩ = some (.bool x.syn) ∧ w'.cell? ⟨w.heap.size, 5, none⟩ = some (.bool x.fin) ∧ w'.cell? ⟨w.heap.size, 6, none⟩ = some (.bool x.rst) ∧ w'.cell? ⟨w.heap.size, 7, none⟩ = some (.bool x.ha) ∧ w'.cell? ⟨w.heap.size, 8, none⟩ = some (.int .i64 x.win) ∧ w'.cell? ⟨w.heap.size, 9, none⟩ = some (.int .i64 x.mss) ∧ w'.cell? ⟨w.heap.size, 10, none⟩ = some (.bool x.sacks) ∧ w'.cell? ⟨w.heap.size, 11, none⟩ = some (.slice A x.bl.length c) ∧ w'.cell? ⟨w.heap.size, 12, none⟩ = some (.string x.s) ∧ w'.cell? ⟨w.heap.size + 1, 0, none⟩ = some (.int .i64 y.fp) ∧ w'.cell? ⟨w.heap.size + 1, 1, none⟩ = some (.int .i64 y.tp) ∧ w'.cell? ⟨w.heap.size + 1, 2, none⟩ = some (.int .i64 y.sq) ∧ w'.cell? ⟨w.heap.size + 1, 3, none⟩ = some (.int .i64 y.ack) ∧ w'.cell? ⟨w.heap.size + 1, 4, none⟩ = some (.bool y.syn) ∧ w'.cell? ⟨w.heap.size + 1, 5, none⟩ = some (.bool y.fin) ∧ w'.cell? ⟨w.heap.size + 1, 6, none⟩ = some (.bool y.rst) ∧ w'.cell? ⟨w.heap.size + 1, 7, none⟩ = some (.bool y.ha) ∧ w'.cell? ⟨w.heap.size + 1, 8, none⟩ = some (.int .i64 y.win) ∧ w'.cell? ⟨w.heap.size + 1, 9, none⟩ = some (.int .i64 y.mss) ∧ w'.cell? ⟨w.heap.size + 1, 10, none⟩ = some (.bool y.sacks) ∧ w'.cell? ⟨w.heap.size + 1, 11, none⟩ = some (.slice A' y.bl.length c') ∧ w'.cell? ⟨w.heap.size + 1, 12, none⟩ = some (.string y.s) ∧ Below w0.heap.size w0 w')) (by kernel_rfl) ⟨gx0.out, gx1.out, gx2.out, gx3.out, gx4.out, gx5.out, gx6.out, gx7.out, gx8.out, gx9.out, gx10.out, gx11.out, gx12.out, gy0.out, gy1.out, gy2.out, gy3.out, gy4.out, gy5.out, gy6.out, gy7.out, gy8.out, gy9.out, gy10.out, gy11.out, gy12.out, HR.drew⟩ ?_
  intro hS
  refine wpAnyH_take (i := 0) (oi := ⟨some 5, _, _, _, _, _⟩) (v := ?va0) rfl (by kernel_rfl) (by kernel_rfl) (by kernel_rfl) (fun _ _ _ h => h) (Or.inl ⟨by rfl, ?hya0⟩) (by exact hS) ?rea0
  case hya0 => (intro ww hSw; (try dsimp only at hSw); go_simp; first | done | with_reducible rfl)
  try simp only [Act.put, List.setIfInBounds_toArray, List.set_cons_zero, List.set_cons_succ]
  refine wpAnyH_take (i := 1) (oi := ⟨some 6, _, _, _, _, _⟩) (v := ?va1) rfl (by kernel_rfl) (by kernel_rfl) (by kernel_rfl) (fun _ _ _ h => h) (Or.inl ⟨by rfl, ?hya1⟩) (by exact hS) ?rea1
  case hya1 => (intro ww hSw; (try dsimp only at hSw); go_simp; first | done | with_reducible rfl)
  try simp only [Act.put, List.setIfInBounds_toArray, List.set_cons_zero, List.set_cons_succ]
  refine wpAnyH_take (i := 2) (oi := ⟨some 7, _, _, _, _, _⟩) (v := ?va2) rfl (by kernel_rfl) (by kernel_rfl) (by kernel_rfl) (fun _ _ _ h => h) (Or.inl ⟨by rfl, ?hya2⟩) (by exact hS) ?rea2
  case hya2 => (intro ww hSw; (try dsimp only at hSw); go_simp; first | done | with_reducible rfl)
  try simp only [Act.put, List.setIfInBounds_toArray, List.set_cons_zero, List.set_cons_succ]
  refine wpAnyH_take (i := 3) (oi := ⟨some 8, _, _, _, _, _⟩) (v := ?va3) rfl (by kernel_rfl) (by kernel_rfl) (by kernel_rfl) (fun _ _ _ h => h) (Or.inl ⟨by rfl, ?hya3⟩) (by exact hS) ?rea3
  case hya3 => (intro ww hSw; (try dsimp only at hSw); go_simp; first | done | with_reducible rfl)
  try simp only [Act.put, List.setIfInBounds_toArray, List.set_cons_zero, List.set_cons_succ]
  refine wpAnyH_take (i := 4) (oi := ⟨some 9, _, _, _, _, _⟩) (v := ?va4) rfl (by kernel_rfl) (by kernel_rfl) (by kernel_rfl) (fun _ _ _ h => h) (Or.inl ⟨by rfl, ?hya4⟩) (by exact hS) ?rea4
  case hya4 => (intro ww hSw; (try dsimp only at hSw); go_simp; first | done | with_reducible rfl)
  try simp only [Act.put, List.setIfInBounds_toArray, List.set_cons_zero, List.set_cons_succ]
  refine wpAnyH_take (i := 5) (oi := ⟨some 10, _, _, _, _, _⟩) (v := ?va5) rfl (by kernel_rfl) (by kernel_rfl) (by kernel_rfl) (fun _ _ _ h => h) (Or.inl ⟨by rfl, ?hya5⟩) (by exact hS) ?rea5
  case hya5 => (intro ww hSw; (try dsimp only at hSw); go_simp; first | done | with_reducible rfl)
  try simp only [Act.put, List.setIfInBounds_toArray, List.set_cons_zero, List.set_cons_succ]
  refine wpAnyH_take (i := 6) (oi := ⟨some 11, _, _, _, _, _⟩) (v := ?va6) rfl (by kernel_rfl) (by kernel_rfl) (by kernel_rfl) (fun _ _ _ h => h) (Or.inl ⟨by rfl, ?hya6⟩) (by exact hS) ?rea6
  case hya6 => (intro ww hSw; (try dsimp only at hSw); go_simp; first | done | with_reducible rfl)
  try simp only [Act.put, List.setIfInBounds_toArray, List.set_cons_zero, List.set_cons_succ]
  refine wpAnyH_take (i := 7) (oi := ⟨some 12, _, _, _, _, _⟩) (v := ?va7) rfl (by kernel_rfl) (by kernel_rfl) (by kernel_rfl) (fun _ _ _ h => h) (Or.inl ⟨by rfl, ?hya7⟩) (by exact hS) ?rea7
  case hya7 => (intro ww hSw; (try dsimp only at hSw); go_simp; first | done | with_reducible rfl)
  try simp only [Act.put, List.setIfInBounds_toArray, List.set_cons_zero, List.set_cons_succ]
  refine wpAnyH_take (i := 8) (oi := ⟨some 13, _, _, _, _, _⟩) (v := ?va8) rfl (by kernel_rfl) (by kernel_rfl) (by kernel_rfl) (fun _ _ _ h => h) (Or.inl ⟨by rfl, ?hya8⟩) (by exact hS) ?rea8
  case hya8 => (intro ww hSw; (try dsimp only at hSw); go_simp; first | done | with_reducible rfl)
  try simp only [Act.put, List.setIfInBounds_toArray, List.set_cons_zero, List.set_cons_succ]
  refine wpAnyH_take (i := 9) (oi := ⟨some 14, _, _, _, _, _⟩) (v := ?va9) rfl (by kernel_rfl) (by kernel_rfl) (by kernel_rfl) (fun _ _ _ h => h) (Or.inl ⟨by rfl, ?hya9⟩) (by exact hS) ?rea9
  case hya9 => (intro ww hSw; (try dsimp only at hSw); go_simp; first | done | with_reducible rfl)
  try simp only [Act.put, List.setIfInBounds_toArray, List.set_cons_zero, List.set_cons_succ]
  refine wpAnyH_take (i := 10) (oi := ⟨some 15, _, _, _, _, _⟩) (v := ?va10) rfl (by kernel_rfl) (by kernel_rfl) (by kernel_rfl) (fun _ _ _ h => h) (Or.inl ⟨by rfl, ?hya10⟩) (by exact hS) ?rea10
  case hya10 => (intro ww hSw; (try dsimp only at hSw); go_simp; first | done | with_reducible rfl)
  try simp only [Act.put, List.setIfInBounds_toArray, List.set_cons_zero, List.set_cons_succ]
  refine wpAnyH_take (i := 11) (oi := ⟨some 16, _, _, _, _, _⟩) (v := ?va11) rfl (by kernel_rfl) (by kernel_rfl) (by kernel_rfl) (fun _ _ _ h => h) (Or.inl ⟨by rfl, ?hya11⟩) (by exact hS) ?rea11
  case hya11 => (intro ww hSw; (try dsimp only at hSw); go_simp; first | done | with_reducible rfl)
  try simp only [Act.put, List.setIfInBounds_toArray, List.set_cons_zero, List.set_cons_succ]
  refine wpAnyH_take (i := 12) (oi := ⟨some 17, _, _, _, _, _⟩) (v := ?va12) rfl (by kernel_rfl) (by kernel_rfl) (by kernel_rfl) (fun _ _ _ h => h) (Or.inl ⟨by rfl, ?hya12⟩) (by exact hS) ?rea12
  case hya12 => (intro ww hSw; (try dsimp only at hSw); go_simp; first | done | with_reducible rfl)
  try simp only [Act.put, List.setIfInBounds_toArray, List.set_cons_zero, List.set_cons_succ]
  refine wpAnyH_take (i := 13) (oi := ⟨some 18, _, _, _, _, _⟩) (v := ?va13) rfl (by kernel_rfl) (by kernel_rfl) (by kernel_rfl) (fun _ _ _ h => h) (Or.inl ⟨by rfl, ?hya13⟩) (by exact hS) ?rea13
  case hya13 => (intro ww hSw; (try dsimp only at hSw); go_simp; first | done | with_reducible rfl)
  try simp only [Act.put, List.setIfInBounds_toArray, List.set_cons_zero, List.set_cons_succ]
  refine wpAnyH_take (i := 14) (oi := ⟨some 19, _, _, _, _, _⟩) (v := ?va14) rfl (by kernel_rfl) (by kernel_rfl) (by kernel_rfl) (fun _ _ _ h => h) (Or.inl ⟨by rfl, ?hya14⟩) (by exact hS) ?rea14
  case hya14 => (intro ww hSw; (try dsimp only at hSw); go_simp; first | done | with_reducible rfl)
  try simp only [Act.put, List.setIfInBounds_toArray, List.set_cons_zero, List.set_cons_succ]
  refine wpAnyH_take (i := 15) (oi := ⟨some 20, _, _, _, _, _⟩) (v := ?va15) rfl (by kernel_rfl) (by kernel_rfl) (by kernel_rfl) (fun _ _ _ h => h) (Or.inl ⟨by rfl, ?hya15⟩) (by exact hS) ?rea15
  case hya15 => (intro ww hSw; (try dsimp only at hSw); go_simp; first | done | with_reducible rfl)
  try simp only [Act.put, List.setIfInBounds_toArray, List.set_cons_zero, List.set_cons_succ]
  refine wpAnyH_take (i := 16) (oi := ⟨some 21, _, _, _, _, _⟩) (v := ?va16) rfl (by kernel_rfl) (by kernel_rfl) (by kernel_rfl) (fun _ _ _ h => h) (Or.inl ⟨by rfl, ?hya16⟩) (by exact hS) ?rea16
  case hya16 => (intro ww hSw; (try dsimp only at hSw); go_simp; first | done | with_reducible rfl)
  try simp only [Act.put, List.setIfInBounds_toArray, List.set_cons_zero, List.set_cons_succ]
  refine wpAnyH_take (i := 17) (oi := ⟨some 22, _, _, _, _, _⟩) (v := ?va17) rfl (by kernel_rfl) (by kernel_rfl) (by kernel_rfl) (fun _ _ _ h => h) (Or.inl ⟨by rfl, ?hya17⟩) (by exact hS) ?rea17
  case hya17 => (intro ww hSw; (try dsimp only at hSw); go_simp; first | done | with_reducible rfl)
  try simp only [Act.put, List.setIfInBounds_toArray, List.set_cons_zero, List.set_cons_succ]
  refine wpAnyH_take (i := 18) (oi := ⟨some 23, _, _, _, _, _⟩) (v := ?va18) rfl (by kernel_rfl) (by kernel_rfl) (by kernel_rfl) (fun _ _ _ h => h) (Or.inl ⟨by rfl, ?hya18⟩) (by exact hS) ?rea18
  case hya18 => (intro ww hSw; (try dsimp only at hSw); go_simp; first | done | with_reducible rfl)
  try simp only [Act.put, List.setIfInBounds_toArray, List.set_cons_zero, List.set_cons_succ]
  refine wpAnyH_take (i := 19) (oi := ⟨some 24, _, _, _, _, _⟩) (v := ?va19) rfl (by kernel_rfl) (by kernel_rfl) (by kernel_rfl) (fun _ _ _ h => h) (Or.inl ⟨by rfl, ?hya19⟩) (by exact hS) ?rea19
  case hya19 => (intro ww hSw; (try dsimp only at hSw); go_simp; first | done | with_reducible rfl)
  try simp only [Act.put, List.setIfInBounds_toArray, List.set_cons_zero, List.set_cons_succ]
  refine wpAnyH_take (i := 20) (oi := ⟨some 25, _, _, _, _, _⟩) (v := ?va20) rfl (by kernel_rfl) (by kernel_rfl) (by kernel_rfl) (fun _ _ _ h => h) (Or.inl ⟨by rfl, ?hya20⟩) (by exact hS) ?rea20
  case hya20 => (intro ww hSw; (try dsimp only at hSw); go_simp; first | done | with_reducible rfl)
  try simp only [Act.put, List.setIfInBounds_toArray, List.set_cons_zero, List.set_cons_succ]
  refine wpAnyH_take (i := 21) (oi := ⟨some 26, _, _, _, _, _⟩) (v := ?va21) rfl (by kernel_rfl) (by kernel_rfl) (by kernel_rfl) (fun _ _ _ h => h) (Or.inl ⟨by rfl, ?hya21⟩) (by exact hS) ?rea21
  case hya21 => (intro ww hSw; (try dsimp only at hSw); go_simp; first | done | with_reducible rfl)
  try simp only [Act.put, List.setIfInBounds_toArray, List.set_cons_zero, List.set_cons_succ]
  refine wpAnyH_take (i := 22) (oi := ⟨some 27, _, _, _, _, _⟩) (v := ?va22) rfl (by kernel_rfl) (by kernel_rfl) (by kernel_rfl) (fun _ _ _ h => h) (Or.inl ⟨by rfl, ?hya22⟩) (by exact hS) ?rea22
  case hya22 => (intro ww hSw; (try dsimp only at hSw); go_simp; first | done | with_reducible rfl)
  try simp only [Act.put, List.setIfInBounds_toArray, List.set_cons_zero, List.set_cons_succ]
  refine wpAnyH_take (i := 23) (oi := ⟨some 28, _, _, _, _, _⟩) (v := ?va23) rfl (by kernel_rfl) (by kernel_rfl) (by kernel_rfl) (fun _ _ _ h => h) (Or.inl ⟨by rfl, ?hya23⟩) (by exact hS) ?rea23
  case hya23 => (intro ww hSw; (try dsimp only at hSw); go_simp; first | done | with_reducible rfl)
  try simp only [Act.put, List.setIfInBounds_toArray, List.set_cons_zero, List.set_cons_succ]
  refine wpAnyH_take (i := 24) (oi := ⟨some 29, _, _, _, _, _⟩) (v := ?va24) rfl (by kernel_rfl) (by kernel_rfl) (by kernel_rfl) (fun _ _ _ h => h) (Or.inl ⟨by rfl, ?hya24⟩) (by exact hS) ?rea24
  case hya24 => (intro ww hSw; (try dsimp only at hSw); go_simp; first | done | with_reducible rfl)
  try simp only [Act.put, List.setIfInBounds_toArray, List.set_cons_zero, List.set_cons_succ]
  refine wpAnyH_take (i := 25) (oi := ⟨some 30, _, _, _, _, _⟩) (v := ?va25) rfl (by kernel_rfl) (by kernel_rfl) (by kernel_rfl) (fun _ _ _ h => h) (Or.inl ⟨by rfl, ?hya25⟩) (by exact hS) ?rea25
  case hya25 => (intro ww hSw; (try dsimp only at hSw); go_simp; first | done | with_reducible rfl)
  try simp only [Act.put, List.setIfInBounds_toArray, List.set_cons_zero, List.set_cons_succ]
  refine wpAnyH_take (i := 26) (oi := ⟨some 31, _, _, _, _, _⟩) (v := ?va26) rfl (by kernel_rfl) (by kernel_rfl) (by kernel_rfl) (fun _ _ _ h => h) (Or.inl ⟨by rfl, ?hya26⟩) (by exact hS) ?rea26
  case hya26 => (intro ww hSw; (try dsimp only at hSw); go_simp; first | done | with_reducible rfl)
  try simp only [Act.put, List.setIfInBounds_toArray, List.set_cons_zero, List.set_cons_succ]
  refine wpAnyH_take (i := 27) (oi := ⟨some 32, _, _, _, _, _⟩) (v := ?va27) rfl (by kernel_rfl) (by kernel_rfl) (by kernel_rfl) (fun _ _ _ h => h) (Or.inl ⟨by rfl, ?hya27⟩) (by exact hS) ?rea27
  case hya27 => (intro ww hSw; (try dsimp only at hSw); go_simp; first | done | with_reducible rfl)
  try simp only [Act.put, List.setIfInBounds_toArray, List.set_cons_zero, List.set_cons_succ]
  refine wpAnyH_take (i := 29) (oi := ⟨some 34, _, _, _, _, _⟩) (v := ?va29) rfl (by kernel_rfl) (by kernel_rfl) (by kernel_rfl) (fun _ _ _ h => h) (Or.inl ⟨by rfl, ?hya29⟩) (by exact hS) ?rea29
  case hya29 => (intro ww hSw; (try dsimp only at hSw); go_simp; first | done | with_reducible rfl)
  try simp only [Act.put, List.setIfInBounds_toArray, List.set_cons_zero, List.set_cons_succ]
  refine wpAnyH_ready (rs := [28]) (by kernel_rfl) (by simp) ?_
  refine AllReadyH.cons rfl (fun Ka hKa => ?_) AllReadyH.nil
  go_simp
  refine (flags_any _ _ _ _ _ _ _ _ _ _ _ _ _ _ _ _).mono ?_
  rintro e w1 ⟨rfl, hbA⟩
  have hRA := Lib.hid (below_call HR.drew hbA)
  refine hKa.out _ _ ⟨bcell (hRA.out) gx0.out, bcell (hRA.out) gx1.out, bcell (hRA.out) gx2.out, bcell (hRA.out) gx3.out, bcell (hRA.out) gx4.out, bcell (hRA.out) gx5.out, bcell (hRA.out) gx6.out, bcell (hRA.out) gx7.out, bcell (hRA.out) gx8.out, bcell (hRA.out) gx9.out, bcell (hRA.out) gx10.out, bcell (hRA.out) gx11.out, bcell (hRA.out) gx12.out, bcell (hRA.out) gy0.out, bcell (hRA.out) gy1.out, bcell (hRA.out) gy2.out, bcell (hRA.out) gy3.out, bcell (hRA.out) gy4.out, bcell (hRA.out) gy5.out, bcell (hRA.out) gy6.out, bcell (hRA.out) gy7.out, bcell (hRA.out) gy8.out, bcell (hRA.out) gy9.out, bcell (hRA.out) gy10.out, bcell (hRA.out) gy11.out, bcell (hRA.out) gy12.out, hRA.out⟩ (fun h1 => ?_)
  try simp only [Act.put, List.setIfInBounds_toArray, List.set_cons_zero, List.set_cons_succ]
  refine wpAnyH_ready (rs := [30]) (by kernel_rfl) (by simp) ?_
  refine AllReadyH.cons rfl (fun Kb hKb => ?_) AllReadyH.nil
  go_simp
  refine (flags_any _ _ _ _ _ _ _ _ _ _ _ _ _ _ _ _).mono ?_
  rintro e w2 ⟨rfl, hbB⟩
  have hRB := Lib.hid (below_call hRA.out hbB)
  refine hKb.out _ _ ⟨bcell (hRB.out) gx0.out, bcell (hRB.out) gx1.out, bcell (hRB.out) gx2.out, bcell (hRB.out) gx3.out, bcell (hRB.out) gx4.out, bcell (hRB.out) gx5.out, bcell (hRB.out) gx6.out, bcell (hRB.out) gx7.out, bcell (hRB.out) gx8.out, bcell (hRB.out) gx9.out, bcell (hRB.out) gx10.out, bcell (hRB.out) gx11.out, bcell (hRB.out) gx12.out, bcell (hRB.out) gy0.out, bcell (hRB.out) gy1.out, bcell (hRB.out) gy2.out, bcell (hRB.out) gy3.out, bcell (hRB.out) gy4.out, bcell (hRB.out) gy5.out, bcell (hRB.out) gy6.out, bcell (hRB.out) gy7.out, bcell (hRB.out) gy8.out, bcell (hRB.out) gy9.out, bcell (hRB.out) gy10.out, bcell (hRB.out) gy11.out, bcell (hRB.out) gy12.out, hRB.out⟩ (fun h2 => ?_)
  try simp only [Act.put, List.setIfInBounds_toArray, List.set_cons_zero, List.set_cons_succ]
  clear h1 hbA hbB
  refine wpAnyH_take (i := 31) (oi := ⟨some 36, _, _, _, _, _⟩) (v := ?vc31) rfl (by kernel_rfl) (by kernel_rfl) (by kernel_rfl) (fun _ _ _ h => h) (Or.inl ⟨by rfl, ?hyc31⟩) (by exact h2) ?rec31
  case hyc31 => (intro ww hSw; (try dsimp only at hSw); go_simp; first | done | with_reducible rfl)
  try simp only [Act.put, List.setIfInBounds_toArray, List.set_cons_zero, List.set_cons_succ]
  refine wpAnyH_take (i := 32) (oi := ⟨some 37, _, _, _, _, _⟩) (v := ?vc32) rfl (by kernel_rfl) (by kernel_rfl) (by kernel_rfl) (fun _ _ _ h => h) (Or.inl ⟨by rfl, ?hyc32⟩) (by exact h2) ?rec32
  case hyc32 => (intro ww hSw; (try dsimp only at hSw); go_simp; first | done | with_reducible rfl)
  try simp only [Act.put, List.setIfInBounds_toArray, List.set_cons_zero, List.set_cons_succ]
  refine wpAnyH_take (i := 33) (oi := ⟨some 38, _, _, _, _, _⟩) (v := ?vc33) rfl (by kernel_rfl) (by kernel_rfl) (by kernel_rfl) (fun _ _ _ h => h) (Or.inl ⟨by rfl, ?hyc33⟩) (by exact h2) ?rec33
  case hyc33 => (intro ww hSw; (try dsimp only at hSw); go_simp; first | done | with_reducible rfl)
  try simp only [Act.put, List.setIfInBounds_toArray, List.set_cons_zero, List.set_cons_succ]
  refine wpAnyH_take (i := 34) (oi := ⟨some 39, _, _, _, _, _⟩) (v := ?vc34) rfl (by kernel_rfl) (by kernel_rfl) (by kernel_rfl) (fun _ _ _ h => h) (Or.inl ⟨by rfl, ?hyc34⟩) (by exact h2) ?rec34
  case hyc34 => (intro ww hSw; (try dsimp only at hSw); go_simp; first | done | with_reducible rfl)
  try simp only [Act.put, List.setIfInBounds_toArray, List.set_cons_zero, List.set_cons_succ]
  refine wpAnyH_take (i := 35) (oi := ⟨some 40, _, _, _, _, _⟩) (v := ?vc35) rfl (by kernel_rfl) (by kernel_rfl) (by kernel_rfl) (fun _ _ _ h => h) (Or.inl ⟨by rfl, ?hyc35⟩) (by exact h2) ?rec35
  case hyc35 => (intro ww hSw; (try dsimp only at hSw); go_simp; first | done | with_reducible rfl)
  try simp only [Act.put, List.setIfInBounds_toArray, List.set_cons_zero, List.set_cons_succ]
  refine wpAnyH_take (i := 36) (oi := ⟨some 41, _, _, _, _, _⟩) (v := ?vc36) rfl (by kernel_rfl) (by kernel_rfl) (by kernel_rfl) (fun _ _ _ h => h) (Or.inl ⟨by rfl, ?hyc36⟩) (by exact h2) ?rec36
  case hyc36 => (intro ww hSw; (try dsimp only at hSw); go_simp; first | done | with_reducible rfl)
  try simp only [Act.put, List.setIfInBounds_toArray, List.set_cons_zero, List.set_cons_succ]
  refine wpAnyH_take (i := 37) (oi := ⟨some 42, _, _, _, _, _⟩) (v := ?vc37) rfl (by kernel_rfl) (by kernel_rfl) (by kernel_rfl) (fun _ _ _ h => h) (Or.inl ⟨by rfl, ?hyc37⟩) (by exact h2) ?rec37
  case hyc37 => (intro ww hSw; (try dsimp only at hSw); go_simp; first | done | with_reducible rfl)
  try simp only [Act.put, List.setIfInBounds_toArray, List.set_cons_zero, List.set_cons_succ]
  refine wpAnyH_take (i := 38) (oi := ⟨some 43, _, _, _, _, _⟩) (v := ?vc38) rfl (by kernel_rfl) (by kernel_rfl) (by kernel_rfl) (fun _ _ _ h => h) (Or.inl ⟨by rfl, ?hyc38⟩) (by exact h2) ?rec38
  case hyc38 => (intro ww hSw; (try dsimp only at hSw); go_simp; first | done | with_reducible rfl)
  try simp only [Act.put, List.setIfInBounds_toArray, List.set_cons_zero, List.set_cons_succ]
  refine wpAnyH_take (i := 39) (oi := ⟨some 44, _, _, _, _, _⟩) (v := ?vc39) rfl (by kernel_rfl) (by kernel_rfl) (by kernel_rfl) (fun _ _ _ h => h) (Or.inl ⟨by rfl, ?hyc39⟩) (by exact h2) ?rec39
  case hyc39 => (intro ww hSw; (try dsimp only at hSw); go_simp; first | done | with_reducible rfl)
  try simp only [Act.put, List.setIfInBounds_toArray, List.set_cons_zero, List.set_cons_succ]
  refine wpAnyH_take (i := 40) (oi := ⟨some 45, _, _, _, _, _⟩) (v := ?vc40) rfl (by kernel_rfl) (by kernel_rfl) (by kernel_rfl) (fun _ _ _ h => h) (Or.inl ⟨by rfl, ?hyc40⟩) (by exact h2) ?rec40
  case hyc40 => (intro ww hSw; (try dsimp only at hSw); go_simp; first | done | with_reducible rfl)
  try simp only [Act.put, List.setIfInBounds_toArray, List.set_cons_zero, List.set_cons_succ]
  refine wpAnyH_take (i := 41) (oi := ⟨some 46, _, _, _, _, _⟩) (v := ?vc41) rfl (by kernel_rfl) (by kernel_rfl) (by kernel_rfl) (fun _ _ _ h => h) (Or.inl ⟨by rfl, ?hyc41⟩) (by exact h2) ?rec41
  case hyc41 => (intro ww hSw; (try dsimp only at hSw); go_simp; first | done | with_reducible rfl)
  try simp only [Act.put, List.setIfInBounds_toArray, List.set_cons_zero, List.set_cons_succ]
  refine wpAnyH_take (i := 42) (oi := ⟨some 47, _, _, _, _, _⟩) (v := ?vc42) rfl (by kernel_rfl) (by kernel_rfl) (by kernel_rfl) (fun _ _ _ h => h) (Or.inl ⟨by rfl, ?hyc42⟩) (by exact h2) ?rec42
  case hyc42 => (intro ww hSw; (try dsimp only at hSw); go_simp; first | done | with_reducible rfl)
  try simp only [Act.put, List.setIfInBounds_toArray, List.set_cons_zero, List.set_cons_succ]
  refine wpAnyH_take (i := 43) (oi := ⟨some 48, _, _, _, _, _⟩) (v := ?vc43) rfl (by kernel_rfl) (by kernel_rfl) (by kernel_rfl) (fun _ _ _ h => h) (Or.inl ⟨by rfl, ?hyc43⟩) (by exact h2) ?rec43
  case hyc43 => (intro ww hSw; (try dsimp only at hSw); go_simp; first | done | with_reducible rfl)
  try simp only [Act.put, List.setIfInBounds_toArray, List.set_cons_zero, List.set_cons_succ]
  refine wpAnyH_take (i := 44) (oi := ⟨some 49, _, _, _, _, _⟩) (v := ?vc44) rfl (by kernel_rfl) (by kernel_rfl) (by kernel_rfl) (fun _ _ _ h => h) (Or.inl ⟨by rfl, ?hyc44⟩) (by exact h2) ?rec44
  case hyc44 => (intro ww hSw; (try dsimp only at hSw); go_simp; first | done | with_reducible rfl)
  try simp only [Act.put, List.setIfInBounds_toArray, List.set_cons_zero, List.set_cons_succ]
  refine wpAnyH_take (i := 45) (oi := ⟨some 50, _, _, _, _, _⟩) (v := ?vc45) rfl (by kernel_rfl) (by kernel_rfl) (by kernel_rfl) (fun _ _ _ h => h) (Or.inl ⟨by rfl, ?hyc45⟩) (by exact h2) ?rec45
  case hyc45 => (intro ww hSw; (try dsimp only at hSw); go_simp; first | done | with_reducible rfl)
  try simp only [Act.put, List.setIfInBounds_toArray, List.set_cons_zero, List.set_cons_succ]
  refine wpAnyH_take (i := 46) (oi := ⟨some 51, _, _, _, _, _⟩) (v := ?vc46) rfl (by kernel_rfl) (by kernel_rfl) (by kernel_rfl) (fun _ _ _ h => h) (Or.inl ⟨by rfl, ?hyc46⟩) (by exact h2) ?rec46
  case hyc46 => (intro ww hSw; (try dsimp only at hSw); go_simp; first | done | with_reducible rfl)
  try simp only [Act.put, List.setIfInBounds_toArray, List.set_cons_zero, List.set_cons_succ]
  refine wpAnyH_take (i := 47) (oi := ⟨some 52, _, _, _, _, _⟩) (v := ?vc47) rfl (by kernel_rfl) (by kernel_rfl) (by kernel_rfl) (fun _ _ _ h => h) (Or.inl ⟨by rfl, ?hyc47⟩) (by exact h2) ?rec47
  case hyc47 => (intro ww hSw; (try dsimp only at hSw); go_simp; first | done | with_reducible rfl)
  try simp only [Act.put, List.setIfInBounds_toArray, List.set_cons_zero, List.set_cons_succ]
  refine wpAnyH_take (i := 48) (oi := ⟨some 53, _, _, _, _, _⟩) (v := undef) rfl (by kernel_rfl) (by kernel_rfl) (by kernel_rfl) (fun _ _ _ h => h) (Or.inr ⟨by rfl, rfl⟩) (by exact h2) ?_
  try simp only [Act.put, List.setIfInBounds_toArray, List.set_cons_zero, List.set_cons_succ]
  refine wpAnyH_take (i := 49) (oi := ⟨some 54, _, _, _, _, _⟩) (v := undef) rfl (by kernel_rfl) (by kernel_rfl) (by kernel_rfl) (fun _ _ _ h => h) (Or.inr ⟨by rfl, rfl⟩) (by exact h2) ?_
  try simp only [Act.put, List.setIfInBounds_toArray, List.set_cons_zero, List.set_cons_succ]
  refine wpAnyH_take (i := 50) (oi := ⟨some 55, _, _, _, _, _⟩) (v := undef) rfl (by kernel_rfl) (by kernel_rfl) (by kernel_rfl) (fun _ _ _ h => h) (Or.inr ⟨by rfl, rfl⟩) (by exact h2) ?_
  try simp only [Act.put, List.setIfInBounds_toArray, List.set_cons_zero, List.set_cons_succ]
  refine wpAnyH_take (i := 51) (oi := ⟨some 56, _, _, _, _, _⟩) (v := undef) rfl (by kernel_rfl) (by kernel_rfl) (by kernel_rfl) (fun _ _ _ h => h) (Or.inr ⟨by rfl, rfl⟩) (by exact h2) ?_
  try simp only [Act.put, List.setIfInBounds_toArray, List.set_cons_zero, List.set_cons_succ]
  refine wpAnyH_take (i := 52) (oi := ⟨some 57, _, _, _, _, _⟩) (v := undef) rfl (by kernel_rfl) (by kernel_rfl) (by kernel_rfl) (fun _ _ _ h => h) (Or.inr ⟨by rfl, rfl⟩) (by exact h2) ?_
  try simp only [Act.put, List.setIfInBounds_toArray, List.set_cons_zero, List.set_cons_succ]
  refine wpAnyH_take (i := 53) (oi := ⟨some 58, _, _, _, _, _⟩) (v := ?vc53) rfl (by kernel_rfl) (by kernel_rfl) (by kernel_rfl) (fun _ _ _ h => h) (Or.inl ⟨by rfl, ?hyc53⟩) (by exact h2) ?rec53
  case hyc53 => (intro ww hSw; (try dsimp only at hSw); go_simp; first | done | with_reducible rfl)
  try simp only [Act.put, List.setIfInBounds_toArray, List.set_cons_zero, List.set_cons_succ]
  refine wpAnyH_take (i := 54) (oi := ⟨some 59, _, _, _, _, _⟩) (v := ?vc54) rfl (by kernel_rfl) (by kernel_rfl) (by kernel_rfl) (fun _ _ _ h => h) (Or.inl ⟨by rfl, ?hyc54⟩) (by exact h2) ?rec54
  case hyc54 => (intro ww hSw; (try dsimp only at hSw); go_simp; first | done | with_reducible rfl)
  try simp only [Act.put, List.setIfInBounds_toArray, List.set_cons_zero, List.set_cons_succ]
  refine wpAnyH_take (i := 55) (oi := ⟨some 60, _, _, _, _, _⟩) (v := undef) rfl (by kernel_rfl) (by kernel_rfl) (by kernel_rfl) (fun _ _ _ h => h) (Or.inr ⟨by rfl, rfl⟩) (by exact h2) ?_
  try simp only [Act.put, List.setIfInBounds_toArray, List.set_cons_zero, List.set_cons_succ]
  refine wpAnyH_take (i := 56) (oi := ⟨some 61, _, _, _, _, _⟩) (v := undef) rfl (by kernel_rfl) (by kernel_rfl) (by kernel_rfl) (fun _ _ _ h => h) (Or.inr ⟨by rfl, rfl⟩) (by exact h2) ?_
  try simp only [Act.put, List.setIfInBounds_toArray, List.set_cons_zero, List.set_cons_succ]
  refine wpAnyH_take (i := 57) (oi := ⟨some 62, _, _, _, _, _⟩) (v := undef) rfl (by kernel_rfl) (by kernel_rfl) (by kernel_rfl) (fun _ _ _ h => h) (Or.inr ⟨by rfl, rfl⟩) (by exact h2) ?_
  try simp only [Act.put, List.setIfInBounds_toArray, List.set_cons_zero, List.set_cons_succ]
  refine wpAnyH_take (i := 58) (oi := ⟨some 63, _, _, _, _, _⟩) (v := undef) rfl (by kernel_rfl) (by kernel_rfl) (by kernel_rfl) (fun _ _ _ h => h) (Or.inr ⟨by rfl, rfl⟩) (by exact h2) ?_
  try simp only [Act.put, List.setIfInBounds_toArray, List.set_cons_zero, List.set_cons_succ]
  refine wpAnyH_take (i := 59) (oi := ⟨some 64, _, _, _, _, _⟩) (v := undef) rfl (by kernel_rfl) (by kernel_rfl) (by kernel_rfl) (fun _ _ _ h => h) (Or.inr ⟨by rfl, rfl⟩) (by exact h2) ?_
  try simp only [Act.put, List.setIfInBounds_toArray, List.set_cons_zero, List.set_cons_succ]
  refine wpAnyH_take (i := 60) (oi := ⟨some 65, _, _, _, _, _⟩) (v := ?vc60) rfl (by kernel_rfl) (by kernel_rfl) (by kernel_rfl) (fun _ _ _ h => h) (Or.inl ⟨by rfl, ?hyc60⟩) (by exact h2) ?rec60
  case hyc60 => (intro ww hSw; (try dsimp only at hSw); go_simp; first | done | with_reducible rfl)
  try simp only [Act.put, List.setIfInBounds_toArray, List.set_cons_zero, List.set_cons_succ]
  refine wpAnyH_take (i := 61) (oi := ⟨some 4, _, _, _, _, _⟩) (v := ?vc61) rfl (by kernel_rfl) (by kernel_rfl) (by kernel_rfl) (fun _ _ _ h => h) (Or.inl ⟨by rfl, ?hyc61⟩) (by exact h2) ?rec61
  case hyc61 => (intro ww hSw; (try dsimp only at hSw); go_simp; first | done | with_reducible rfl)
  try simp only [Act.put, List.setIfInBounds_toArray, List.set_cons_zero, List.set_cons_succ]
  refine wpAnyH_done (by kernel_rfl) ?_ _
  go_wp2_with fail
  go_ret
  exact ⟨rfl, below_call HB hRB.out⟩
end Go.Proofs.Ytkinlmanimdlcaa.Sg
