/-
  The walk of the law ICMPErrorsMatchReference.
-/
import Derived.Test.YtmcfllogcmnnoaaDoorIcA
import Derived.Test.YtmcfllogcmnnoaaDoorIcR5
import Derived.Test.YtmcfllogcmnnoaaDoorLaw06b
import Derived.Test.YtmcfllogcmnnoaaDoorHeld
import Derived.Deep.RegionHeld3
namespace Go.Proofs.YtmcfllogcmnnoaaDoor.Ic
set_option maxRecDepth 100000
open Go.RowKit Go.Proofs.YtmcfllogcmnnoaaDoor.Wire Go.Proofs.YtmcfllogcmnnoaaDoor.Gen
open Go.Proofs.YtmcfllogcmnnoaaDoor.Ip (In64 Pk)
theorem eqMsg9 (k c n : Int) (s : ByteArray) (k' c' n' : Int) (s' : ByteArray) : ∀ w : World, (Op.equalIn 10000 23 (.agg #[.int .i64 k, .int .i64 c, .int .i64 n, .string s]) (.agg #[.int .i64 k', .int .i64 c', .int .i64 n', .string s'])).run Tryd.prog w = .ok (decide (k = k' ∧ c = c' ∧ n = n' ∧ s = s')) w := by
  intro w
  go_simp
  by_cases h0 : k = k'
  case neg => simp [h0]
  by_cases h1 : c = c'
  case neg => simp [h0, h1]
  by_cases h2 : n = n'
  case neg => simp [h0, h1, h2]
  by_cases h3 : s = s'
  · subst h3; simp [h0, h1, h2]
  · have := ba_ne h3
    rw [beq_eq_false_iff_ne] at this
    simp [h0, h1, h2, h3, this]

theorem ne_both (k c n : Int) (p : Pk) (hs : p.s.size ≤ 1000000) : ∃ (d0 d1 d2 : Int) (ds : ByteArray) (b : Bool), Hid (∀ W, Calls Tryd.prog 24 #[.int .i64 k, .int .i64 c, .int .i64 n, .agg #[.int .i64 p.f, .int .i64 p.t, .int .i64 p.pr, .int .i64 p.ttl, .int .i64 p.id, .bool p.df, .bool p.mf, .int .i64 p.off, .string p.s]] W fun e w' => e = .returned (.tuple #[.agg #[.int .i64 d0, .int .i64 d1, .int .i64 d2, .string ds], .bool b]) ∧ Below W.heap.size W w') ∧ Hid (∀ W, Calls Tryd.prog 25 #[.int .i64 k, .int .i64 c, .int .i64 n, .agg #[.int .i64 p.f, .int .i64 p.t, .int .i64 p.pr, .int .i64 p.ttl, .int .i64 p.id, .bool p.df, .bool p.mf, .int .i64 p.off, .string p.s]] W fun e w' => e = .returned (.tuple #[.agg #[.int .i64 d0, .int .i64 d1, .int .i64 d2, .string ds], .bool b]) ∧ Below W.heap.size W w') := by
  by_cases h : neOk k c n p
  · refine ⟨k, c, n, quoteP p, true, Lib.hid fun W => ?_, Lib.hid fun W => ?_⟩
    · refine (newError_any k c n p W (by omega)).mono ?_
      rintro e w' ⟨⟨-, rfl⟩ | ⟨q, -⟩, hb⟩
      · exact ⟨rfl, hb⟩
      · exact absurd h q
    · refine (rNewError_any k c n p W hs).mono ?_
      rintro e w' ⟨⟨-, rfl⟩ | ⟨q, -⟩, hb⟩
      · exact ⟨rfl, hb⟩
      · exact absurd h q
  · refine ⟨0, 0, 0, ⟨#[]⟩, false, Lib.hid fun W => ?_, Lib.hid fun W => ?_⟩
    · refine (newError_any k c n p W (by omega)).mono ?_
      rintro e w' ⟨⟨q, -⟩ | ⟨-, rfl⟩, hb⟩
      · exact absurd q h
      · exact ⟨rfl, hb⟩
    · refine (rNewError_any k c n p W hs).mono ?_
      rintro e w' ⟨⟨q, -⟩ | ⟨-, rfl⟩, hb⟩
      · exact absurd q h
      · exact ⟨rfl, hb⟩
theorem slice2 (p q : Pk) (w : World) : (Instr.buildSlice 39 2 #[(0, .agg #[.int .i64 p.f, .int .i64 p.t, .int .i64 p.pr, .int .i64 p.ttl, .int .i64 p.id, .bool p.df, .bool p.mf, .int .i64 p.off, .string p.s]), (1, .agg #[.int .i64 q.f, .int .i64 q.t, .int .i64 q.pr, .int .i64 q.ttl, .int .i64 q.id, .bool q.df, .bool q.mf, .int .i64 q.off, .string q.s])]).run Tryd.prog w = .ok (.slice (some ⟨w.heap.size, 0, none⟩) 2 2) (w.alloc (.cells #[.int .i64 p.f, .int .i64 p.t, .int .i64 p.pr, .int .i64 p.ttl, .int .i64 p.id, .bool p.df, .bool p.mf, .int .i64 p.off, .string p.s, .int .i64 q.f, .int .i64 q.t, .int .i64 q.pr, .int .i64 q.ttl, .int .i64 q.id, .bool q.df, .bool q.mf, .int .i64 q.off, .string q.s] 31)) := by kernel_rfl
theorem oper_slice2 (p q : Pk) {o : Oper} {a : Act} {next : Act → World → Prop} {Q : Exit → Act → World → Prop} {w : World} {x y : Operand} (hop : o.op = Op.buildSlice 39 2 #[(0, x), (1, y)]) (hx : a.eval x = .agg #[.int .i64 p.f, .int .i64 p.t, .int .i64 p.pr, .int .i64 p.ttl, .int .i64 p.id, .bool p.df, .bool p.mf, .int .i64 p.off, .string p.s]) (hy : a.eval y = .agg #[.int .i64 q.f, .int .i64 q.t, .int .i64 q.pr, .int .i64 q.ttl, .int .i64 q.id, .bool q.df, .bool q.mf, .int .i64 q.off, .string q.s])
    (hk : next (a.put o.dst (.slice (some ⟨w.heap.size, 0, none⟩) 2 2)) (w.alloc (.cells #[.int .i64 p.f, .int .i64 p.t, .int .i64 p.pr, .int .i64 p.ttl, .int .i64 p.id, .bool p.df, .bool p.mf, .int .i64 p.off, .string p.s, .int .i64 q.f, .int .i64 q.t, .int .i64 q.pr, .int .i64 q.ttl, .int .i64 q.id, .bool q.df, .bool q.mf, .int .i64 q.off, .string q.s] 31))) : Oper.wp Tryd.prog o a w next Q := by
  have h : execOp a.eval o = (do pure (Next.value (← Instr.buildSlice 39 2 #[(0, .agg #[.int .i64 p.f, .int .i64 p.t, .int .i64 p.pr, .int .i64 p.ttl, .int .i64 p.id, .bool p.df, .bool p.mf, .int .i64 p.off, .string p.s]), (1, .agg #[.int .i64 q.f, .int .i64 q.t, .int .i64 q.pr, .int .i64 q.ttl, .int .i64 q.id, .bool q.df, .bool q.mf, .int .i64 q.off, .string q.s])]))) := by
    unfold execOp
    rw [hop]
    simp [hx, hy]
  unfold Oper.wp
  rw [h, Sem.run_bind, slice2]
  exact hk
theorem cells18 {W : World} {bk : Nat} {p q : Pk} (hb : W.heap[bk]? = some (.cells #[.int .i64 p.f, .int .i64 p.t, .int .i64 p.pr, .int .i64 p.ttl, .int .i64 p.id, .bool p.df, .bool p.mf, .int .i64 p.off, .string p.s, .int .i64 q.f, .int .i64 q.t, .int .i64 q.pr, .int .i64 q.ttl, .int .i64 q.id, .bool q.df, .bool q.mf, .int .i64 q.off, .string q.s] 31)) (hp : p.s.size ≤ 1000000) (hq : q.s.size ≤ 1000000) (j : Nat) (hj : j < 2) :
    ∃ y : Pk, y.s.size ≤ 1000000 ∧ W.cell? ⟨bk, j * 9, none⟩ = some (.int .i64 y.f) ∧ W.cell? ⟨bk, j * 9 + 1, none⟩ = some (.int .i64 y.t) ∧ W.cell? ⟨bk, j * 9 + 2, none⟩ = some (.int .i64 y.pr) ∧ W.cell? ⟨bk, j * 9 + 3, none⟩ = some (.int .i64 y.ttl) ∧ W.cell? ⟨bk, j * 9 + 4, none⟩ = some (.int .i64 y.id) ∧ W.cell? ⟨bk, j * 9 + 5, none⟩ = some (.bool y.df) ∧ W.cell? ⟨bk, j * 9 + 6, none⟩ = some (.bool y.mf) ∧ W.cell? ⟨bk, j * 9 + 7, none⟩ = some (.int .i64 y.off) ∧ W.cell? ⟨bk, j * 9 + 8, none⟩ = some (.string y.s) := by
  match j, hj with
  | 0, _ => exact ⟨p, hp, (cell_of_block hb rfl).1, (cell_of_block hb rfl).1, (cell_of_block hb rfl).1, (cell_of_block hb rfl).1, (cell_of_block hb rfl).1, (cell_of_block hb rfl).1, (cell_of_block hb rfl).1, (cell_of_block hb rfl).1, (cell_of_block hb rfl).1⟩
  | 1, _ => exact ⟨q, hq, (cell_of_block hb rfl).1, (cell_of_block hb rfl).1, (cell_of_block hb rfl).1, (cell_of_block hb rfl).1, (cell_of_block hb rfl).1, (cell_of_block hb rfl).1, (cell_of_block hb rfl).1, (cell_of_block hb rfl).1, (cell_of_block hb rfl).1⟩
set_option maxHeartbeats 8000000 in
theorem errors_law (k c n : Int) (p : Pk) (x0 x1 x2 x3 x4 x5 x6 x7 : Int) (xs : ByteArray) (a0 a1 : Addr) (w : World) (hg : GlE w a0 a1) (hk : In64 k) (hp : p.s.size ≤ 9223372036854775807) (h0 : In64 x0) (h1 : In64 x1) (h2 : In64 x2) (h3 : In64 x3) (h4 : In64 x4) (h5 : In64 x5) (h6 : In64 x6) (h7 : In64 x7) (hs : xs.size ≤ 9223372036854775807) :
    Calls Tryd.prog 4 #[.int .i64 k, .int .i64 c, .int .i64 n, .agg #[.int .i64 p.f, .int .i64 p.t, .int .i64 p.pr, .int .i64 p.ttl, .int .i64 p.id, .bool p.df, .bool p.mf, .int .i64 p.off, .string p.s], .agg #[.int .i64 x0, .int .i64 x1, .int .i64 x2, .int .i64 x3, .int .i64 x4, .int .i64 x5, .int .i64 x6, .int .i64 x7, .string xs]] w fun e w' => e = .returned (.bool true) ∧ Below w.heap.size w w' := by
  have hg0 := Lib.hid hg; clear hg
  have HPF := Lib.hid fun W => Ip.packetFrom_any x0 x1 x2 x3 x4 x5 x6 x7 xs W h0 h1 h2 h3 h4 h5 h6 h7 hs
  clear h0 h1 h2 h3 h4 h5 h6 h7
  have m1 : (0 : Int) ≤ min (p.s.size : Int) 4010 ∧ min (p.s.size : Int) 4010 ≤ (p.s.size : Int) := by omega
  obtain ⟨s, hS1⟩ : ∃ s, Hid (p.s.extract 0 (min (p.s.size : Int) 4010).toNat = s) := ⟨_, Lib.hid rfl⟩
  have hsz : s.size ≤ 4010 := by rw [← hS1.out, ByteArray.size_extract]; omega
  have hp6 := pick_lt k 6 (by omega)
  have HP6 := Lib.hid fun W => pick8_any k 6 W hk (by omega) (by omega)
  generalize pick k 6 = k6 at *
  go_enter Tryd.func4, Tryd.ntmps4
  have HB := Below.refl w.heap.size w
  have Hp := Lib.hid (alloc_new' w (.cells #[.int .i64 p.f, .int .i64 p.t, .int .i64 p.pr, .int .i64 p.ttl, .int .i64 p.id, .bool p.df, .bool p.mf, .int .i64 p.off, .string p.s] 31) (w.heap.size) (by simp))
  have HB' := below_alloc (o := .cells #[.int .i64 p.f, .int .i64 p.t, .int .i64 p.pr, .int .i64 p.ttl, .int .i64 p.id, .bool p.df, .bool p.mf, .int .i64 p.off, .string p.s] 31) HB; clear HB; have HB := HB'; clear HB'
  have Hx := Lib.hid (alloc_new' (w.alloc (.cells #[.int .i64 p.f, .int .i64 p.t, .int .i64 p.pr, .int .i64 p.ttl, .int .i64 p.id, .bool p.df, .bool p.mf, .int .i64 p.off, .string p.s] 31)) (.cells #[.int .i64 x0, .int .i64 x1, .int .i64 x2, .int .i64 x3, .int .i64 x4, .int .i64 x5, .int .i64 x6, .int .i64 x7, .string xs] 37) (w.heap.size + 1) (by simp))
  have Hp' := Lib.hid (block_alloc Hp.out (.cells #[.int .i64 x0, .int .i64 x1, .int .i64 x2, .int .i64 x3, .int .i64 x4, .int .i64 x5, .int .i64 x6, .int .i64 x7, .string xs] 37)); clear Hp; have Hp := Hp'; clear Hp'
  have HB' := below_alloc (o := .cells #[.int .i64 x0, .int .i64 x1, .int .i64 x2, .int .i64 x3, .int .i64 x4, .int .i64 x5, .int .i64 x6, .int .i64 x7, .string xs] 37) HB; clear HB; have HB := HB'; clear HB'
  go_wp2_with fail
  refine (sane_any a0 a1 _ (hg0.out.below HB)).mono ?_
  rintro e w1 ⟨rfl, hb⟩
  have Hp' := Lib.hid (bblock hb Hp.out); clear Hp; have Hp := Hp'; clear Hp'
  have Hx' := Lib.hid (bblock hb Hx.out); clear Hx; have Hx := Hx'; clear Hx'
  have HB' := below_call HB hb; clear HB hb; have HB := HB'; clear HB'; have hz1 := HB.size
  have lt_p_1 := blk_lt Hp.out
  have lt_x_1 := blk_lt Hx.out
  have Sp := cells9 Hp.out
  obtain ⟨⟨qp0, qp1, qp2, qp3, qp4, qp5, qp6, qp7, qp8⟩, zp0, zp1, zp2, zp3, zp4, zp5, zp6, zp7, zp8⟩ := Sp
  have lt_p := blk_lt Hp.out
  go_upto_region 3 with fail
  rw [hS1.out]
  clear qp0 zp0 qp1 zp1 qp2 zp2 qp3 zp3 qp4 zp4 qp5 zp5 qp6 zp6 qp7 zp7 qp8 zp8
  have Hx' := Lib.hid (block_set_other (a := ⟨w.heap.size, 8, none⟩) (u := .string s) Hx.out (by first | (simp; done) | (simp; omega))); clear Hx; have Hx := Hx'; clear Hx'
  have Hp' := Lib.hid (cells_eq (b := #[.int .i64 p.f, .int .i64 p.t, .int .i64 p.pr, .int .i64 p.ttl, .int .i64 p.id, .bool p.df, .bool p.mf, .int .i64 p.off, .string s]) (block_setCell (k := 8) (v := .string s) Hp.out) rfl); clear Hp; have Hp := Hp'; clear Hp'
  have HB' := Below.setCell HB (p := ⟨w.heap.size, 8, none⟩) (by first | (simp; done) | (simp; omega)) (.string s); clear HB; have HB := HB'; clear HB'
  generalize World.setCell w1 ⟨w.heap.size, 8, none⟩ (.string s) = W2 at *
  go_cut [32, 33, 34] (fun s32 s33 s34 wx => ∃ (B : Nat) (y : Pk), y.s.size ≤ 1000000 ∧ s32 = .slice (some ⟨B, 0, none⟩) 2 2 ∧ s33 = .int .i64 2 ∧ s34 = .int .i64 0 ∧ wx.heap[B]? = some (.cells #[.int .i64 p.f, .int .i64 p.t, .int .i64 p.pr, .int .i64 p.ttl, .int .i64 p.id, .bool p.df, .bool p.mf, .int .i64 p.off, .string s, .int .i64 y.f, .int .i64 y.t, .int .i64 y.pr, .int .i64 y.ttl, .int .i64 y.id, .bool y.df, .bool y.mf, .int .i64 y.off, .string y.s] 31) ∧ Below w.heap.size w wx)
  case first =>
    refine wp_region_held_drew (S := (fun w' : World => w'.cell? ⟨w.heap.size, 0, none⟩ = some (.int .i64 p.f) ∧ w'.cell? ⟨w.heap.size, 1, none⟩ = some (.int .i64 p.t) ∧ w'.cell? ⟨w.heap.size, 2, none⟩ = some (.int .i64 p.pr) ∧ w'.cell? ⟨w.heap.size, 3, none⟩ = some (.int .i64 p.ttl) ∧ w'.cell? ⟨w.heap.size, 4, none⟩ = some (.int .i64 p.id) ∧ w'.cell? ⟨w.heap.size, 5, none⟩ = some (.bool p.df) ∧ w'.cell? ⟨w.heap.size, 6, none⟩ = some (.bool p.mf) ∧ w'.cell? ⟨w.heap.size, 7, none⟩ = some (.int .i64 p.off) ∧ w'.cell? ⟨w.heap.size, 8, none⟩ = some (.string s) ∧ w'.cell? ⟨w.heap.size + 1, 0, none⟩ = some (.int .i64 x0) ∧ w'.cell? ⟨w.heap.size + 1, 1, none⟩ = some (.int .i64 x1) ∧ w'.cell? ⟨w.heap.size + 1, 2, none⟩ = some (.int .i64 x2) ∧ w'.cell? ⟨w.heap.size + 1, 3, none⟩ = some (.int .i64 x3) ∧ w'.cell? ⟨w.heap.size + 1, 4, none⟩ = some (.int .i64 x4) ∧ w'.cell? ⟨w.heap.size + 1, 5, none⟩ = some (.int .i64 x5) ∧ w'.cell? ⟨w.heap.size + 1, 6, none⟩ = some (.int .i64 x6) ∧ w'.cell? ⟨w.heap.size + 1, 7, none⟩ = some (.int .i64 x7) ∧ w'.cell? ⟨w.heap.size + 1, 8, none⟩ = some (.string xs) ∧ Below w.heap.size w w')) (by kernel_rfl) ⟨(cell_of_block (k := 0) (Hp.out) rfl).1, (cell_of_block (k := 1) (Hp.out) rfl).1, (cell_of_block (k := 2) (Hp.out) rfl).1, (cell_of_block (k := 3) (Hp.out) rfl).1, (cell_of_block (k := 4) (Hp.out) rfl).1, (cell_of_block (k := 5) (Hp.out) rfl).1, (cell_of_block (k := 6) (Hp.out) rfl).1, (cell_of_block (k := 7) (Hp.out) rfl).1, (cell_of_block (k := 8) (Hp.out) rfl).1, (cell_of_block (k := 0) (Hx.out) rfl).1, (cell_of_block (k := 1) (Hx.out) rfl).1, (cell_of_block (k := 2) (Hx.out) rfl).1, (cell_of_block (k := 3) (Hx.out) rfl).1, (cell_of_block (k := 4) (Hx.out) rfl).1, (cell_of_block (k := 5) (Hx.out) rfl).1, (cell_of_block (k := 6) (Hx.out) rfl).1, (cell_of_block (k := 7) (Hx.out) rfl).1, (cell_of_block (k := 8) (Hx.out) rfl).1, HB.drew⟩ ?_
    intro hS
    refine wpAnyH_take (i := 0) (v := ?va0) rfl (by kernel_rfl) (by kernel_rfl) (by kernel_rfl) (fun _ _ _ h => h) (Or.inl ⟨by rfl, ?hya0⟩) (by exact hS) ?rea0
    case hya0 => (intro ww hSw; (try dsimp only at hSw); go_simp; first | done | with_reducible rfl)
    try simp only [Act.put]
    refine wpAnyH_take (i := 1) (v := ?va1) rfl (by kernel_rfl) (by kernel_rfl) (by kernel_rfl) (fun _ _ _ h => h) (Or.inl ⟨by rfl, ?hya1⟩) (by exact hS) ?rea1
    case hya1 => (intro ww hSw; (try dsimp only at hSw); go_simp; first | done | with_reducible rfl)
    try simp only [Act.put]
    refine wpAnyH_take (i := 5) (v := ?va5) rfl (by kernel_rfl) (by kernel_rfl) (by kernel_rfl) (fun _ _ _ h => h) (Or.inl ⟨by rfl, ?hya5⟩) (by exact hS) ?rea5
    case hya5 => (intro ww hSw; (try dsimp only at hSw); go_simp; first | done | with_reducible rfl)
    try simp only [Act.put]
    refine wpAnyH_ready (rs := [2]) (by kernel_rfl) (by simp) ?_
    refine AllReadyH.cons rfl (fun Kx hKx => ?stx) AllReadyH.nil
    go_simp
    go_at_call 22
    refine (HPF.out _).mono ?_
    rintro e v1 ⟨y, hyo, hys, rfl, hb⟩
    have HB1 := below_call HB.drew hb
    refine hKx.out _ _ ⟨(cell_of_block (k := 0) (bblock hb Hp.out) rfl).1, (cell_of_block (k := 1) (bblock hb Hp.out) rfl).1, (cell_of_block (k := 2) (bblock hb Hp.out) rfl).1, (cell_of_block (k := 3) (bblock hb Hp.out) rfl).1, (cell_of_block (k := 4) (bblock hb Hp.out) rfl).1, (cell_of_block (k := 5) (bblock hb Hp.out) rfl).1, (cell_of_block (k := 6) (bblock hb Hp.out) rfl).1, (cell_of_block (k := 7) (bblock hb Hp.out) rfl).1, (cell_of_block (k := 8) (bblock hb Hp.out) rfl).1, (cell_of_block (k := 0) (bblock hb Hx.out) rfl).1, (cell_of_block (k := 1) (bblock hb Hx.out) rfl).1, (cell_of_block (k := 2) (bblock hb Hx.out) rfl).1, (cell_of_block (k := 3) (bblock hb Hx.out) rfl).1, (cell_of_block (k := 4) (bblock hb Hx.out) rfl).1, (cell_of_block (k := 5) (bblock hb Hx.out) rfl).1, (cell_of_block (k := 6) (bblock hb Hx.out) rfl).1, (cell_of_block (k := 7) (bblock hb Hx.out) rfl).1, (cell_of_block (k := 8) (bblock hb Hx.out) rfl).1, HB1⟩ (fun h1 => ?_)
    refine wpAnyH_ready (rs := [3]) (by kernel_rfl) (by simp) ?_
    refine AllReadyH.cons rfl (fun Ky hKy => ?sty) AllReadyH.nil
    rw [if_pos (by rfl)]
    refine oper_slice2 { p with s := s } y rfl rfl rfl ?_
    refine hKy.out _ _ ⟨(cell_of_block (k := 0) (block_alloc (bblock hb Hp.out) _) rfl).1, (cell_of_block (k := 1) (block_alloc (bblock hb Hp.out) _) rfl).1, (cell_of_block (k := 2) (block_alloc (bblock hb Hp.out) _) rfl).1, (cell_of_block (k := 3) (block_alloc (bblock hb Hp.out) _) rfl).1, (cell_of_block (k := 4) (block_alloc (bblock hb Hp.out) _) rfl).1, (cell_of_block (k := 5) (block_alloc (bblock hb Hp.out) _) rfl).1, (cell_of_block (k := 6) (block_alloc (bblock hb Hp.out) _) rfl).1, (cell_of_block (k := 7) (block_alloc (bblock hb Hp.out) _) rfl).1, (cell_of_block (k := 8) (block_alloc (bblock hb Hp.out) _) rfl).1, (cell_of_block (k := 0) (block_alloc (bblock hb Hx.out) _) rfl).1, (cell_of_block (k := 1) (block_alloc (bblock hb Hx.out) _) rfl).1, (cell_of_block (k := 2) (block_alloc (bblock hb Hx.out) _) rfl).1, (cell_of_block (k := 3) (block_alloc (bblock hb Hx.out) _) rfl).1, (cell_of_block (k := 4) (block_alloc (bblock hb Hx.out) _) rfl).1, (cell_of_block (k := 5) (block_alloc (bblock hb Hx.out) _) rfl).1, (cell_of_block (k := 6) (block_alloc (bblock hb Hx.out) _) rfl).1, (cell_of_block (k := 7) (block_alloc (bblock hb Hx.out) _) rfl).1, (cell_of_block (k := 8) (block_alloc (bblock hb Hx.out) _) rfl).1, below_alloc HB1⟩ (fun h3 => ?_)
    refine wpAnyH_take (i := 4) (v := ?vf4) rfl (by kernel_rfl) (by kernel_rfl) (by kernel_rfl) (fun _ _ _ h => h) (Or.inl ⟨by rfl, ?hyf4⟩) (by exact h3) ?ref4
    case hyf4 => (intro ww hSw; (try dsimp only at hSw); go_simp; first | done | with_reducible rfl)
    try simp only [Act.put]
    refine wpAnyH_done (by kernel_rfl) ?_ _
    go_wp2_with fail
    go_meet
    exact ⟨_, y, by omega, rfl, rfl, rfl, alloc_new _ _, below_alloc HB1⟩
  case rest =>
    clear HB Hp Hx hz1 lt_p_1 lt_x_1 lt_p
    obtain ⟨Bs, y, hys, rfl, rfl, rfl, hBk, HB⟩ := hcut
    have HS := Lib.hid hBk; clear hBk
    obtain ⟨b0, rfl⟩ : ∃ wo : World, wo = wc := ⟨_, rfl⟩
    have HB0 := Lib.hid HB; clear HB
    go_wp2_with fail
    go_loopw [34] (fun i wl => ∃ j : Nat, j ≤ 2 ∧ i = .int .i64 (j : Int) ∧ Below b0.heap.size b0 wl) (fun i _ => 2 - (intOf i).toNat)
    case atStart => exact ⟨0, by omega, rfl, Below.refl _ _⟩
    case round =>
      obtain ⟨j, hj, rfl, HR⟩ := hrel
      obtain ⟨wo, rfl⟩ : ∃ wo : World, wo = wr := ⟨_, rfl⟩
      by_cases hlt : j < 2
      · as_aux_lemma =>
        obtain ⟨u, hu, e0, e1, e2, e3, e4, e5, e6, e7, e8⟩ := cells18 (p := { p with s := s }) (q := y) HS.out (by show s.size ≤ 1000000; omega) hys j hlt
        have g0 := bcell HR e0
        have g1 := bcell HR e1
        have g2 := bcell HR e2
        have g3 := bcell HR e3
        have g4 := bcell HR e4
        have g5 := bcell HR e5
        have g6 := bcell HR e6
        have g7 := bcell HR e7
        have g8 := bcell HR e8
        clear e0 e1 e2 e3 e4 e5 e6 e7 e8
        have lt_S := blk_lt HS.out; have hzo := HR.size
        have hjl : decide ((j : Int) < 2) = true := by simp; omega
        have hj0 : (0 : Int) ≤ (j : Int) := by omega
        have HB := HR; clear HR
        go_wp2_with fail
        clear g0 g1 g2 g3 g4 g5 g6 g7 g8
        have Hu := Lib.hid (alloc_new' wo (.cells #[.int .i64 u.f, .int .i64 u.t, .int .i64 u.pr, .int .i64 u.ttl, .int .i64 u.id, .bool u.df, .bool u.mf, .int .i64 u.off, .string u.s] 31) (wo.heap.size) (by simp))
        have HB' := below_alloc (o := .cells #[.int .i64 u.f, .int .i64 u.t, .int .i64 u.pr, .int .i64 u.ttl, .int .i64 u.id, .bool u.df, .bool u.mf, .int .i64 u.off, .string u.s] 31) HB; clear HB; have HB := HB'; clear HB'
        refine (HP6.out _).mono ?_
        rintro e w' ⟨rfl, rfl⟩
        go_wp2_with fail
        have Hf := Lib.hid (alloc_new' (wo.alloc (.cells #[.int .i64 u.f, .int .i64 u.t, .int .i64 u.pr, .int .i64 u.ttl, .int .i64 u.id, .bool u.df, .bool u.mf, .int .i64 u.off, .string u.s] 31)) (.cells #[.int .i64 k, .int .i64 (1 + k6)] 3) (wo.heap.size + 1) (by simp))
        have Hu' := Lib.hid (block_alloc Hu.out (.cells #[.int .i64 k, .int .i64 (1 + k6)] 3)); clear Hu; have Hu := Hu'; clear Hu'
        have HB' := below_alloc (o := .cells #[.int .i64 k, .int .i64 (1 + k6)] 3) HB; clear HB; have HB := HB'; clear HB'
        generalize (wo.alloc (.cells #[.int .i64 u.f, .int .i64 u.t, .int .i64 u.pr, .int .i64 u.ttl, .int .i64 u.id, .bool u.df, .bool u.mf, .int .i64 u.off, .string u.s] 31)).alloc (.cells #[.int .i64 k, .int .i64 (1 + k6)] 3) = b1 at *
        have HBm := Lib.hid HB; clear HB
        go_loopw [44] (fun i wl => ∃ j2 : Nat, j2 ≤ 2 ∧ i = .int .i64 (j2 : Int) ∧ Below b1.heap.size b1 wl) (fun i _ => 2 - (intOf i).toNat)
        case atStart => exact ⟨0, by omega, rfl, Below.refl _ _⟩
        case round =>
          obtain ⟨j2, hj2, rfl, HR⟩ := hrel
          obtain ⟨wi, rfl⟩ : ∃ wo : World, wo = wr := ⟨_, rfl⟩
          by_cases hlt2 : j2 < 2
          · as_aux_lemma =>
            obtain ⟨av, hav⟩ : ∃ av : Int, b1.cell? ⟨wo.heap.size + 1, j2, none⟩ = some (.int .i64 av) := by
              match j2, hlt2 with
              | 0, _ => exact ⟨_, (cell_of_block (k := 0) Hf.out rfl).1⟩
              | 1, _ => exact ⟨_, (cell_of_block (k := 1) Hf.out rfl).1⟩
            have gav := bcell HR hav; clear hav
            have lt_f := blk_lt Hf.out; have hzi := HR.size
            have hjl2 : decide ((j2 : Int) < 2) = true := by simp; omega
            have hj02 : (0 : Int) ≤ (j2 : Int) := by omega
            obtain ⟨d0, d1, d2, ds, bb, HN1, HN2⟩ := ne_both av c n u hu
            have heq := eqMsg9 d0 d1 d2 ds d0 d1 d2 ds
            rw [decide_eq_true (by exact ⟨rfl, rfl, rfl, rfl⟩)] at heq
            have HB := HR; clear HR
            have Hu' := Lib.hid (bblock HB Hu.out); clear Hu; have Hu := Hu'; clear Hu'
            have Su := cells9 Hu.out
            obtain ⟨⟨qu0, qu1, qu2, qu3, qu4, qu5, qu6, qu7, qu8⟩, zu0, zu1, zu2, zu3, zu4, zu5, zu6, zu7, zu8⟩ := Su
            have lt_u := blk_lt Hu.out
            go_wp2_with fail
            clear gav
            refine (HN1.out _).mono ?_
            rintro e w21 ⟨rfl, hb⟩
            have Hu' := Lib.hid (bblock hb Hu.out); clear Hu; have Hu := Hu'; clear Hu'
            have HB' := below_call HB hb; clear HB hb; have HB := HB'; clear HB'; have hz21 := HB.size
            have lt_u_21 := blk_lt Hu.out
            clear qu0 zu0 qu1 zu1 qu2 zu2 qu3 zu3 qu4 zu4 qu5 zu5 qu6 zu6 qu7 zu7 qu8 zu8
            have Hm1 := Lib.hid (alloc_new' w21 (.cells #[.int .i64 d0, .int .i64 d1, .int .i64 d2, .string ds] 23) (w21.heap.size) (by simp))
            have Hu' := Lib.hid (block_alloc Hu.out (.cells #[.int .i64 d0, .int .i64 d1, .int .i64 d2, .string ds] 23)); clear Hu; have Hu := Hu'; clear Hu'
            have HB' := below_alloc (o := .cells #[.int .i64 d0, .int .i64 d1, .int .i64 d2, .string ds] 23) HB; clear HB; have HB := HB'; clear HB'
            have Su := cells9 Hu.out
            obtain ⟨⟨qu0, qu1, qu2, qu3, qu4, qu5, qu6, qu7, qu8⟩, zu0, zu1, zu2, zu3, zu4, zu5, zu6, zu7, zu8⟩ := Su
            have lt_u := blk_lt Hu.out
            go_wp2_with fail
            refine (HN2.out _).mono ?_
            rintro e w22 ⟨rfl, hb⟩
            clear qu0 zu0 qu1 zu1 qu2 zu2 qu3 zu3 qu4 zu4 qu5 zu5 qu6 zu6 qu7 zu7 qu8 zu8
            have Hu' := Lib.hid (bblock hb Hu.out); clear Hu; have Hu := Hu'; clear Hu'
            have Hm1' := Lib.hid (bblock hb Hm1.out); clear Hm1; have Hm1 := Hm1'; clear Hm1'
            have HB' := below_call HB hb; clear HB hb; have HB := HB'; clear HB'; have hz22 := HB.size
            have lt_u_22 := blk_lt Hu.out
            have lt_m1_22 := blk_lt Hm1.out
            have Hm2 := Lib.hid (alloc_new' w22 (.cells #[.int .i64 d0, .int .i64 d1, .int .i64 d2, .string ds] 23) (w22.heap.size) (by simp))
            have Hu' := Lib.hid (block_alloc Hu.out (.cells #[.int .i64 d0, .int .i64 d1, .int .i64 d2, .string ds] 23)); clear Hu; have Hu := Hu'; clear Hu'
            have Hm1' := Lib.hid (block_alloc Hm1.out (.cells #[.int .i64 d0, .int .i64 d1, .int .i64 d2, .string ds] 23)); clear Hm1; have Hm1 := Hm1'; clear Hm1'
            have HB' := below_alloc (o := .cells #[.int .i64 d0, .int .i64 d1, .int .i64 d2, .string ds] 23) HB; clear HB; have HB := HB'; clear HB'
            have Sm1 := cells4 Hm1.out
            obtain ⟨⟨qm10, qm11, qm12, qm13⟩, zm10, zm11, zm12, zm13⟩ := Sm1
            have lt_m1 := blk_lt Hm1.out
            have Sm2 := cells4 Hm2.out
            obtain ⟨⟨qm20, qm21, qm22, qm23⟩, zm20, zm21, zm22, zm23⟩ := Sm2
            have lt_m2 := blk_lt Hm2.out
            go_wp2_with fail
            exact ⟨⟨j2 + 1, by omega, by go_num, HB⟩, by simp [intOf]; omega⟩
          · as_aux_lemma =>
            have hjl2 : decide ((j2 : Int) < 2) = false := by simp; omega
            go_wp2_with fail
            exact ⟨⟨j + 1, by omega, by go_num, below_call HBm.out HR⟩, by simp [intOf]; omega⟩
      · have hjl : decide ((j : Int) < 2) = false := by simp; omega
        go_wp2_with fail
        go_ret
        exact ⟨rfl, below_call HB0.out HR⟩
end Go.Proofs.YtmcfllogcmnnoaaDoor.Ic
