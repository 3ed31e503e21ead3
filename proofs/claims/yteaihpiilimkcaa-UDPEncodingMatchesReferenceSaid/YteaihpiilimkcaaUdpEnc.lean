/-
  The walk of the law UDPEncodingMatchesReference.
-/
import Derived.Test.YteaihpiilimkcaaUdpRef
import Derived.Test.YteaihpiilimkcaaBase1
import Derived.Deep.DeepCutAuto
import Derived.Outline
namespace Go.Proofs.Yteaihpiilimkcaa.Udp
open Go.RowKit Go.Proofs.Yteaihpiilimkcaa.Wire Go.Proofs.Yteaihpiilimkcaa.Gen

theorem cells12 {W : World} {bk : Nat} {fx tx a b : Int} {lx ll : List UInt8} (h : W.heap[bk]? = some (.cells #[.int .i64 fx, .int .i64 tx, .string ⟨lx.toArray⟩, .int .i64 a, .int .i64 tx, .string ⟨lx.toArray⟩, .int .i64 fx, .int .i64 b, .string ⟨lx.toArray⟩, .int .i64 fx, .int .i64 tx, .string ⟨ll.toArray⟩] 26)) (k : Nat) (hk : k < 4) (hl : lx.length ≤ 200) (hll : ll.length ≤ 2009) :
    ∃ (f t : Int) (s : ByteArray), s.size ≤ 9223372036854775807 ∧ W.cell? ⟨bk, k * 3, none⟩ = some (.int .i64 f) ∧ W.cell? ⟨bk, k * 3 + 1, none⟩ = some (.int .i64 t) ∧ W.cell? ⟨bk, k * 3 + 2, none⟩ = some (.string s) := by
  match k, hk with
  | 0, _ => exact ⟨_, _, _, by simp only [sz]; omega, (cell_of_block h rfl).1, (cell_of_block h rfl).1, (cell_of_block h rfl).1⟩
  | 1, _ => exact ⟨_, _, _, by simp only [sz]; omega, (cell_of_block h rfl).1, (cell_of_block h rfl).1, (cell_of_block h rfl).1⟩
  | 2, _ => exact ⟨_, _, _, by simp only [sz]; omega, (cell_of_block h rfl).1, (cell_of_block h rfl).1, (cell_of_block h rfl).1⟩
  | 3, _ => exact ⟨_, _, _, by simp only [sz]; omega, (cell_of_block h rfl).1, (cell_of_block h rfl).1, (cell_of_block h rfl).1⟩
theorem cells4p {W : World} {bk : Nat} {from_ to_ A B : Int} (h : W.heap[bk]? = some (.cells #[.int .i64 from_, .int .i64 to_, .int .i64 A, .int .i64 B] 31)) (k : Nat) (hk : k < 2) :
    ∃ (f t : Int), W.cell? ⟨bk, k * 2, none⟩ = some (.int .i64 f) ∧ W.cell? ⟨bk, k * 2 + 1, none⟩ = some (.int .i64 t) := by
  match k, hk with
  | 0, _ => exact ⟨_, _, (cell_of_block h rfl).1, (cell_of_block h rfl).1⟩
  | 1, _ => exact ⟨_, _, (cell_of_block h rfl).1, (cell_of_block h rfl).1⟩
set_option maxRecDepth 100000 in
set_option maxHeartbeats 4000000 in
theorem enc_walk (x0 x1 x2 x3 x4 from_ to_ a b many fx tx : Int) (xs : ByteArray) (lx ll : List UInt8) (w : World) (hfr : -9223372036854775808 ≤ from_ ∧ from_ ≤ 9223372036854775807) (hto : -9223372036854775808 ≤ to_ ∧ to_ ≤ 9223372036854775807) (hmy : -9223372036854775808 ≤ many ∧ many ≤ 9223372036854775807)
    (hl : lx.length ≤ 200) (hll : ll.length ≤ 2009)
    (hx : ∀ w, Calls Try.prog 8 #[.agg #[.int .i64 x0, .int .i64 x1, .int .i64 x2, .int .i64 x3, .int .i64 x4, .string xs]] w fun e w' => e = .returned (.agg #[.int .i64 fx, .int .i64 tx, .string ⟨lx.toArray⟩]) ∧ Below w.heap.size w w')
    (hp : ∀ w, Calls Try.prog 9 #[.string ⟨lx.toArray⟩, .int .i64 (1990 + pick many 20)] w fun e w' => e = .returned (.string ⟨ll.toArray⟩) ∧ Below w.heap.size w w') :
    Calls Try.prog 3 #[.agg #[.int .i64 x0, .int .i64 x1, .int .i64 x2, .int .i64 x3, .int .i64 x4, .string xs], .int .i64 from_, .int .i64 to_, .int .i64 a, .int .i64 b, .int .i64 many] w fun e w' => e = .returned (.bool true) ∧ Below w.heap.size w w' := by
  have HX := Lib.hid hx
  have HP := Lib.hid hp
  have hpk := pick_lt many 20 (by omega)
  have hwr : IntKind.i64.wrap (1990 + pick many 20) = 1990 + pick many 20 := IntWalk.i64_in _ (by omega)
  clear hx hp
  go_enter Try.func3, Try.ntmps3
  have HB := Below.refl w.heap.size w
  have Hx := Lib.hid (alloc_new' w (.cells #[.int .i64 x0, .int .i64 x1, .int .i64 x2, .int .i64 x3, .int .i64 x4, .string xs] 23) (w.heap.size) (by simp))
  have HB' := below_alloc (o := .cells #[.int .i64 x0, .int .i64 x1, .int .i64 x2, .int .i64 x3, .int .i64 x4, .string xs] 23) HB; clear HB; have HB := HB'; clear HB'
  go_wp2_with fail
  refine (sane_any _).mono ?_
  rintro e w1 ⟨rfl, hb⟩
  have Hx' := Lib.hid (bblock hb Hx.out); clear Hx; have Hx := Hx'; clear Hx'
  have HB' := below_call HB hb; clear HB hb; have HB := HB'; clear HB'; have hz1 := HB.size
  have Sx := cells6 Hx.out
  obtain ⟨⟨qx0, qx1, qx2, qx3, qx4, qx5⟩, zx0, zx1, zx2, zx3, zx4, zx5⟩ := Sx
  have lt_x := blk_lt Hx.out
  go_wp2_with fail
  refine (HX.out _).mono ?_
  rintro e w2 ⟨rfl, hb⟩
  have Hx' := Lib.hid (bblock hb Hx.out); clear Hx; have Hx := Hx'; clear Hx'
  have HB' := below_call HB hb; clear HB hb; have HB := HB'; clear HB'; have hz2 := HB.size
  clear qx0 zx0 qx1 zx1 qx2 zx2 qx3 zx3 qx4 zx4 qx5 zx5
  clear Hx
  have Hu := Lib.hid (alloc_new' w2 (.cells #[.int .i64 fx, .int .i64 tx, .string ⟨lx.toArray⟩] 26) (w2.heap.size) (by simp))
  have HB' := below_alloc (o := .cells #[.int .i64 fx, .int .i64 tx, .string ⟨lx.toArray⟩] 26) HB; clear HB; have HB := HB'; clear HB'
  have Hl := Lib.hid (alloc_new' (w2.alloc (.cells #[.int .i64 fx, .int .i64 tx, .string ⟨lx.toArray⟩] 26)) (.cells #[.int .i64 fx, .int .i64 tx, .string ⟨lx.toArray⟩] 26) (w2.heap.size + 1) (by simp))
  have Hu' := Lib.hid (block_alloc Hu.out (.cells #[.int .i64 fx, .int .i64 tx, .string ⟨lx.toArray⟩] 26)); clear Hu; have Hu := Hu'; clear Hu'
  have HB' := below_alloc (o := .cells #[.int .i64 fx, .int .i64 tx, .string ⟨lx.toArray⟩] 26) HB; clear HB; have HB := HB'; clear HB'
  have Su := cells3 Hu.out
  obtain ⟨⟨qu0, qu1, qu2⟩, zu0, zu1, zu2⟩ := Su
  have lt_u := blk_lt Hu.out
  have Sl := cells3 Hl.out
  obtain ⟨⟨ql0, ql1, ql2⟩, zl0, zl1, zl2⟩ := Sl
  have lt_l := blk_lt Hl.out
  go_wp2_with fail
  clear qu0 zu0 qu1 zu1 qu2 zu2 ql0 zl0 ql1 zl1 ql2 zl2
  go_region_held3 (fun w' => w'.cell? ⟨w2.heap.size, 0, none⟩ = some (.int .i64 fx) ∧ w'.cell? ⟨w2.heap.size, 1, none⟩ = some (.int .i64 tx) ∧ w'.cell? ⟨w2.heap.size, 2, none⟩ = some (.string ⟨lx.toArray⟩) ∧ w'.cell? ⟨w2.heap.size + 1, 0, none⟩ = some (.int .i64 fx) ∧ w'.cell? ⟨w2.heap.size + 1, 1, none⟩ = some (.int .i64 tx) ∧ w'.cell? ⟨w2.heap.size + 1, 2, none⟩ = some (valAt w' ⟨w2.heap.size + 1, 2, none⟩) ∧ w'.frozen? ⟨w2.heap.size + 1, 2, none⟩ = false ∧ Blk w' (w2.heap.size + 1) 3 26 ∧ w'.heap[w2.heap.size]? = some (.cells #[.int .i64 fx, .int .i64 tx, .string ⟨lx.toArray⟩] 26) ∧ Below w.heap.size w w') (first | exact ⟨(cell_of_block Hu.out rfl).1, (cell_of_block Hu.out rfl).1, (cell_of_block Hu.out rfl).1, (cell_of_block Hl.out rfl).1, (cell_of_block Hl.out rfl).1, valAt_of (cell_of_block Hl.out rfl).1, (cell_of_block (k := 2) Hl.out rfl).2, blk_of Hl.out, Hu.out, HB.drew⟩ | (go_split_ands; exact ⟨by assumption, by assumption, by assumption, by assumption, by assumption, by assumption, by assumption, by assumption, by assumption, by assumption⟩) | (go_split_ands; exact ⟨bcell (by assumption) (by assumption), bcell (by assumption) (by assumption), bcell (by assumption) (by assumption), bcell (by assumption) (by assumption), bcell (by assumption) (by assumption), bval (by assumption) (by assumption), bfrozen (by assumption) (by assumption) (by assumption), bblk (by assumption) (by assumption), bblock (by assumption) (by assumption), below_call (by assumption) (by assumption)⟩) | (go_split_ands; exact ⟨cell_alloc' _ (by assumption), cell_alloc' _ (by assumption), cell_alloc' _ (by assumption), cell_alloc' _ (by assumption), cell_alloc' _ (by assumption), valAt_of (cell_alloc' _ (by assumption)), frozen_alloc' _ (by assumption) (by assumption), blk_alloc (by assumption) _, block_alloc (by assumption) _, below_alloc (by assumption)⟩) | (go_split_ands; exact ⟨cell_set_other (by assumption) (by first | (simp; done) | (simp; omega)), cell_set_other (by assumption) (by first | (simp; done) | (simp; omega)), cell_set_other (by assumption) (by first | (simp; done) | (simp; omega)), cell_set_off (by assumption) (by first | (simp; done) | (simp; omega)), cell_set_off (by assumption) (by first | (simp; done) | (simp; omega)), val_set (by assumption), frozen_set (by assumption), blk_set (by assumption), block_set_other (by assumption) (by first | (simp; done) | (simp; omega)), Below.setCell (by assumption) (by first | (simp; done) | (simp; omega)) _⟩))
    (first | (go_at_call 10; refine (pick_any _ _ _ hmy.1 hmy.2 (by omega) (by omega)).mono ?_; rintro e w' ⟨rfl, rfl⟩) | (go_at_call 9; refine (HP.out _).mono ?_; rintro e w4 ⟨rfl, hb4⟩))
  rename_i hH
  obtain ⟨k0_, k1_, k2_, k3_, k4_, k5_, k6_, k7_, k8_, HB'⟩ := hH
  clear Hl; have Hl := Lib.hid (blk_known3 k7_ k3_ k4_ (cell_set_eq k5_))
  clear Hu; have Hu := Lib.hid k8_
  clear k0_ k1_ k2_ k3_ k4_ k5_ k6_ k7_ k8_
  clear HB; have HB := HB'; clear HB'
  generalize World.setCell w4 ⟨w2.heap.size + 1, 2, none⟩ (.string ⟨ll.toArray⟩) = w3r at *
  have hz := HB.size
  have Su := cells3 Hu.out
  obtain ⟨⟨qu0, qu1, qu2⟩, zu0, zu1, zu2⟩ := Su
  have lt_u := blk_lt Hu.out
  have Sl := cells3 Hl.out
  obtain ⟨⟨ql0, ql1, ql2⟩, zl0, zl1, zl2⟩ := Sl
  have lt_l := blk_lt Hl.out
  go_wp2_with fail
  clear qu0 zu0 qu1 zu1 qu2 zu2 ql0 zl0 ql1 zl1 ql2 zl2
  have HS := Lib.hid (alloc_new' w3r (.cells #[.int .i64 fx, .int .i64 tx, .string ⟨lx.toArray⟩, .int .i64 a, .int .i64 tx, .string ⟨lx.toArray⟩, .int .i64 fx, .int .i64 b, .string ⟨lx.toArray⟩, .int .i64 fx, .int .i64 tx, .string ⟨ll.toArray⟩] 26) (w3r.heap.size) (by simp))
  have Hu' := Lib.hid (block_alloc Hu.out (.cells #[.int .i64 fx, .int .i64 tx, .string ⟨lx.toArray⟩, .int .i64 a, .int .i64 tx, .string ⟨lx.toArray⟩, .int .i64 fx, .int .i64 b, .string ⟨lx.toArray⟩, .int .i64 fx, .int .i64 tx, .string ⟨ll.toArray⟩] 26)); clear Hu; have Hu := Hu'; clear Hu'
  have Hl' := Lib.hid (block_alloc Hl.out (.cells #[.int .i64 fx, .int .i64 tx, .string ⟨lx.toArray⟩, .int .i64 a, .int .i64 tx, .string ⟨lx.toArray⟩, .int .i64 fx, .int .i64 b, .string ⟨lx.toArray⟩, .int .i64 fx, .int .i64 tx, .string ⟨ll.toArray⟩] 26)); clear Hl; have Hl := Hl'; clear Hl'
  have HB' := below_alloc (o := .cells #[.int .i64 fx, .int .i64 tx, .string ⟨lx.toArray⟩, .int .i64 a, .int .i64 tx, .string ⟨lx.toArray⟩, .int .i64 fx, .int .i64 b, .string ⟨lx.toArray⟩, .int .i64 fx, .int .i64 tx, .string ⟨ll.toArray⟩] 26) HB; clear HB; have HB := HB'; clear HB'
  clear Hu
  clear Hl
  go_loopw [51] (fun i wr => ∃ k : Nat, k ≤ 4 ∧ i = .int .i64 (k : Int) ∧ Below w.heap.size w wr ∧ wr.heap[w3r.heap.size]? = some (.cells #[.int .i64 fx, .int .i64 tx, .string ⟨lx.toArray⟩, .int .i64 a, .int .i64 tx, .string ⟨lx.toArray⟩, .int .i64 fx, .int .i64 b, .string ⟨lx.toArray⟩, .int .i64 fx, .int .i64 tx, .string ⟨ll.toArray⟩] 26)) (fun i _ => 4 - (intOf i).toNat)
  case atStart => exact ⟨0, by omega, rfl, HB, HS.out⟩
  case round =>
    clear HB HS hz
    obtain ⟨k, hk, rfl, HB, HS⟩ := hrel
    obtain ⟨wo, rfl⟩ : ∃ wo : World, wo = wr := ⟨_, rfl⟩
    have HS := Lib.hid HS
    by_cases hlt : k < 4
    · obtain ⟨f, t, s, hsz, c0, c1, c2⟩ := cells12 HS.out k hlt hl hll
      go_wp2_with fail
      clear c0 c1 c2
      have Hv := Lib.hid (alloc_new' wo (.cells #[.int .i64 f, .int .i64 t, .string s] 26) (wo.heap.size) (by simp))
      have HS' := Lib.hid (block_alloc HS.out (.cells #[.int .i64 f, .int .i64 t, .string s] 26)); clear HS; have HS := HS'; clear HS'
      have HB' := below_alloc (o := .cells #[.int .i64 f, .int .i64 t, .string s] 26) HB; clear HB; have HB := HB'; clear HB'
      refine (addressFrom_any _ _ hfr.1 hfr.2).mono ?_
      rintro e w' ⟨rfl, rfl⟩
      go_wp2_with fail
      refine (addressFrom_any _ _ hto.1 hto.2).mono ?_
      rintro e w' ⟨rfl, rfl⟩
      generalize addrOf from_ = A at *
      generalize addrOf to_ = B at *
      go_wp2_with fail
      have Hp := Lib.hid (alloc_new' (wo.alloc (.cells #[.int .i64 f, .int .i64 t, .string s] 26)) (.cells #[.int .i64 from_, .int .i64 to_, .int .i64 A, .int .i64 B] 31) (wo.heap.size + 1) (by simp))
      have HS' := Lib.hid (block_alloc HS.out (.cells #[.int .i64 from_, .int .i64 to_, .int .i64 A, .int .i64 B] 31)); clear HS; have HS := HS'; clear HS'
      have Hv' := Lib.hid (block_alloc Hv.out (.cells #[.int .i64 from_, .int .i64 to_, .int .i64 A, .int .i64 B] 31)); clear Hv; have Hv := Hv'; clear Hv'
      have HB' := below_alloc (o := .cells #[.int .i64 from_, .int .i64 to_, .int .i64 A, .int .i64 B] 31) HB; clear HB; have HB := HB'; clear HB'
      go_loopw [65] (fun i wr => ∃ j : Nat, j ≤ 2 ∧ i = .int .i64 (j : Int) ∧ Below w.heap.size w wr ∧ wr.heap[w3r.heap.size]? = some (.cells #[.int .i64 fx, .int .i64 tx, .string ⟨lx.toArray⟩, .int .i64 a, .int .i64 tx, .string ⟨lx.toArray⟩, .int .i64 fx, .int .i64 b, .string ⟨lx.toArray⟩, .int .i64 fx, .int .i64 tx, .string ⟨ll.toArray⟩] 26) ∧ wr.heap[wo.heap.size]? = some (.cells #[.int .i64 f, .int .i64 t, .string s] 26) ∧ wr.heap[wo.heap.size + 1]? = some (.cells #[.int .i64 from_, .int .i64 to_, .int .i64 A, .int .i64 B] 31)) (fun i _ => 2 - (intOf i).toNat)
      case atStart => exact ⟨0, by omega, rfl, HB, HS.out, Hv.out, Hp.out⟩
      case round =>
        clear HB HS Hv Hp
        obtain ⟨j, hj, rfl, HB, HS, Hv, Hp⟩ := hrel
        obtain ⟨wi, rfl⟩ : ∃ wi : World, wi = wr := ⟨_, rfl⟩
        have HS := Lib.hid HS; have Hv := Lib.hid Hv; have Hp := Lib.hid Hp
        by_cases hjt : j < 2
        · obtain ⟨a1, b1, d0, d1⟩ := cells4p Hp.out j hjt
          have Sv := cells3 Hv.out
          obtain ⟨⟨qv0, qv1, qv2⟩, zv0, zv1, zv2⟩ := Sv
          have lt_v := blk_lt Hv.out
          go_wp2_with fail
          have Hz := Lib.hid (alloc_new' wi (.cells #[.int .i64 a1, .int .i64 b1] 31) (wi.heap.size) (by simp))
          have HS' := Lib.hid (block_alloc HS.out (.cells #[.int .i64 a1, .int .i64 b1] 31)); clear HS; have HS := HS'; clear HS'
          have Hv' := Lib.hid (block_alloc Hv.out (.cells #[.int .i64 a1, .int .i64 b1] 31)); clear Hv; have Hv := Hv'; clear Hv'
          have Hp' := Lib.hid (block_alloc Hp.out (.cells #[.int .i64 a1, .int .i64 b1] 31)); clear Hp; have Hp := Hp'; clear Hp'
          have HB' := below_alloc (o := .cells #[.int .i64 a1, .int .i64 b1] 31) HB; clear HB; have HB := HB'; clear HB'
          clear d0 d1 qv0 zv0 qv1 zv1 qv2 zv2
          refine (Encode_any _ _ _ _ _ _ hsz).mono ?_
          rintro e w4 ⟨rfl, hb⟩
          have HS' := Lib.hid (bblock hb HS.out); clear HS; have HS := HS'; clear HS'
          have Hv' := Lib.hid (bblock hb Hv.out); clear Hv; have Hv := Hv'; clear Hv'
          have Hp' := Lib.hid (bblock hb Hp.out); clear Hp; have Hp := Hp'; clear Hp'
          have Hz' := Lib.hid (bblock hb Hz.out); clear Hz; have Hz := Hz'; clear Hz'
          have HB' := below_call HB hb; clear HB hb; have HB := HB'; clear HB'; have hz4 := HB.size
          have Sv := cells3 Hv.out
          obtain ⟨⟨qv0, qv1, qv2⟩, zv0, zv1, zv2⟩ := Sv
          have lt_v := blk_lt Hv.out
          have Sz := cells2 Hz.out
          obtain ⟨⟨qz0, qz1⟩, zz0, zz1⟩ := Sz
          have lt_z := blk_lt Hz.out
          go_wp2_with fail
          refine (rEncode_any _ _ _ _ _ _ hsz).mono ?_
          rintro e w5 ⟨rfl, hb⟩
          clear qv0 zv0 qv1 zv1 qv2 zv2
          clear qz0 zz0 qz1 zz1
          have HS' := Lib.hid (bblock hb HS.out); clear HS; have HS := HS'; clear HS'
          have Hv' := Lib.hid (bblock hb Hv.out); clear Hv; have Hv := Hv'; clear Hv'
          have Hp' := Lib.hid (bblock hb Hp.out); clear Hp; have Hp := Hp'; clear Hp'
          have Hz' := Lib.hid (bblock hb Hz.out); clear Hz; have Hz := Hz'; clear Hz'
          have HB' := below_call HB hb; clear HB hb; have HB := HB'; clear HB'; have hz5 := HB.size
          generalize encS a1 b1 f t s = E at *
          generalize encN a1 b1 f t s = N at *
          go_wp2_with fail
          have hEE : (!(E.toList == E.toList)) = false := by simp
          have hNN : (N != N) = false := by simp
          have hvv : (validB f t s.size != validB f t s.size) = false := by simp
          go_region_held3 (fun w' => w'.cell? ⟨wo.heap.size, 0, none⟩ = some (.int .i64 f) ∧ w'.cell? ⟨wo.heap.size, 1, none⟩ = some (.int .i64 t) ∧ w'.cell? ⟨wo.heap.size, 2, none⟩ = some (.string s) ∧ w'.heap[w3r.heap.size]? = some (.cells #[.int .i64 fx, .int .i64 tx, .string ⟨lx.toArray⟩, .int .i64 a, .int .i64 tx, .string ⟨lx.toArray⟩, .int .i64 fx, .int .i64 b, .string ⟨lx.toArray⟩, .int .i64 fx, .int .i64 tx, .string ⟨ll.toArray⟩] 26) ∧ w'.heap[wo.heap.size]? = some (.cells #[.int .i64 f, .int .i64 t, .string s] 26) ∧ w'.heap[wo.heap.size + 1]? = some (.cells #[.int .i64 from_, .int .i64 to_, .int .i64 A, .int .i64 B] 31) ∧ w'.heap[wi.heap.size]? = some (.cells #[.int .i64 a1, .int .i64 b1] 31) ∧ Below w.heap.size w w') (first | exact ⟨(cell_of_block Hv.out rfl).1, (cell_of_block Hv.out rfl).1, (cell_of_block Hv.out rfl).1, HS.out, Hv.out, Hp.out, Hz.out, HB.drew⟩ | (go_split_ands; exact ⟨by assumption, by assumption, by assumption, by assumption, by assumption, by assumption, by assumption, by assumption⟩) | (go_split_ands; exact ⟨bcell (by assumption) (by assumption), bcell (by assumption) (by assumption), bcell (by assumption) (by assumption), bblock (by assumption) (by assumption), bblock (by assumption) (by assumption), bblock (by assumption) (by assumption), bblock (by assumption) (by assumption), below_call (by assumption) (by assumption)⟩) | (go_split_ands; exact ⟨cell_alloc' _ (by assumption), cell_alloc' _ (by assumption), cell_alloc' _ (by assumption), block_alloc (by assumption) _, block_alloc (by assumption) _, block_alloc (by assumption) _, block_alloc (by assumption) _, below_alloc (by assumption)⟩))
            (first | (go_at_call 14; refine (valid_any _ _ _ _ hsz).mono ?_; rintro e w8 ⟨rfl, hb8⟩) | (go_at_call 15; refine (rvalid_any _ _ _ _ hsz).mono ?_; rintro e w9 ⟨rfl, hb9⟩))
          rename_i hH
          obtain ⟨k0_, k1_, k2_, k3_, k4_, k5_, k6_, HB'⟩ := hH
          clear HS; have HS := Lib.hid k3_
          clear Hv; have Hv := Lib.hid k4_
          clear Hp; have Hp := Lib.hid k5_
          clear Hz; have Hz := Lib.hid k6_
          clear k0_ k1_ k2_ k3_ k4_ k5_ k6_
          clear HB; have HB := HB'; clear HB'
          have hz := HB.size
          go_wp2_with fail
          go_roundw
          case rel => exact ⟨j + 1, by omega, by go_num, HB, HS.out, Hv.out, Hp.out⟩
          case measure => simp [intOf]; omega
        · go_wp2_with fail
          go_roundw
          case rel => exact ⟨k + 1, by omega, by go_num, HB, HS.out⟩
          case measure => simp [intOf]; omega
    · go_wp2_with fail
      go_ret
      exact ⟨rfl, HB⟩

end Go.Proofs.Yteaihpiilimkcaa.Udp
