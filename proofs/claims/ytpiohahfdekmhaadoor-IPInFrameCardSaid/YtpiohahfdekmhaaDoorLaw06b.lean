/-
  The contract of PacketFrom.
-/
import Derived.Test.YtpiohahfdekmhaaDoorLaw06a
namespace Go.Proofs.YtpiohahfdekmhaaDoor.Ip
set_option maxRecDepth 100000
open Go.RowKit Go.Proofs.YtpiohahfdekmhaaDoor.Wire Go.Proofs.YtpiohahfdekmhaaDoor.Gen

/-- what PacketFrom returns: a valid datagram of at most 300 bytes -/
def PkPost (w : World) (e : Ending) (w' : World) : Prop := ∃ p : Pk, p.ok ∧ p.s.size ≤ 300 ∧ e = .returned p.val ∧ Below w.heap.size w w'
set_option maxRecDepth 100000 in
set_option maxHeartbeats 2000000 in
theorem packetFrom_any (x0 x1 x2 x3 x4 x5 x6 x7 : Int) (s : ByteArray) (w : World) (h0 : In64 x0) (h1 : In64 x1) (h2 : In64 x2) (h3 : In64 x3) (h4 : In64 x4) (h5 : In64 x5) (h6 : In64 x6) (h7 : In64 x7) (hs : s.size ≤ 9223372036854775807) :
    Calls Tryd.prog 5 #[.agg #[.int .i64 x0, .int .i64 x1, .int .i64 x2, .int .i64 x3, .int .i64 x4, .int .i64 x5, .int .i64 x6, .int .i64 x7, .string s]] w (PkPost w) := by
  have p0 := pick_lt x0 4294967294 (by omega)
  have p1 := pick_lt x1 4294967295 (by omega)
  have p2 := pick_lt x2 256 (by omega)
  have p3 := pick_lt x3 255 (by omega)
  have p4 := pick_lt x4 65536 (by omega)
  have g0 : IntKind.i64.wrap (1 + pick x0 4294967294) = 1 + pick x0 4294967294 := IntWalk.i64_in _ (by omega)
  have g1 : IntKind.i64.wrap (1 + pick x1 4294967295) = 1 + pick x1 4294967295 := IntWalk.i64_in _ (by omega)
  have g3 : IntKind.i64.wrap (1 + pick x3 255) = 1 + pick x3 255 := IntWalk.i64_in _ (by omega)
  go_enter Tryd.func5, Tryd.ntmps5
  have HB := Below.refl w.heap.size w
  have Hx := Lib.hid (alloc_new' w (.cells #[.int .i64 x0, .int .i64 x1, .int .i64 x2, .int .i64 x3, .int .i64 x4, .int .i64 x5, .int .i64 x6, .int .i64 x7, .string s] 23) (w.heap.size) (by simp))
  have HB' := below_alloc (o := .cells #[.int .i64 x0, .int .i64 x1, .int .i64 x2, .int .i64 x3, .int .i64 x4, .int .i64 x5, .int .i64 x6, .int .i64 x7, .string s] 23) HB; clear HB; have HB := HB'; clear HB'
  have Hr := Lib.hid (alloc_new' (w.alloc (.cells #[.int .i64 x0, .int .i64 x1, .int .i64 x2, .int .i64 x3, .int .i64 x4, .int .i64 x5, .int .i64 x6, .int .i64 x7, .string s] 23)) (.cells #[.int .i64 0, .int .i64 0, .int .i64 0, .int .i64 0, .int .i64 0, .bool false, .bool false, .int .i64 0, .string ⟨#[]⟩] 26) (w.heap.size + 1) (by simp))
  have Hx' := Lib.hid (block_alloc Hx.out (.cells #[.int .i64 0, .int .i64 0, .int .i64 0, .int .i64 0, .int .i64 0, .bool false, .bool false, .int .i64 0, .string ⟨#[]⟩] 26)); clear Hx; have Hx := Hx'; clear Hx'
  have HB' := below_alloc (o := .cells #[.int .i64 0, .int .i64 0, .int .i64 0, .int .i64 0, .int .i64 0, .bool false, .bool false, .int .i64 0, .string ⟨#[]⟩] 26) HB; clear HB; have HB := HB'; clear HB'
  go_upto_region 1 with fail
  go_cut [3] (fun s3 wx => s3 = .pointer (some ⟨w.heap.size + 1 + 1, 0, none⟩) ∧ wx = (((w.alloc (.cells #[.int .i64 x0, .int .i64 x1, .int .i64 x2, .int .i64 x3, .int .i64 x4, .int .i64 x5, .int .i64 x6, .int .i64 x7, .string s] 23)).alloc (.cells #[.int .i64 0, .int .i64 0, .int .i64 0, .int .i64 0, .int .i64 0, .bool false, .bool false, .int .i64 0, .string ⟨#[]⟩] 26)).alloc (.cells #[.int .i64 (1 + pick x0 4294967294), .int .i64 (1 + pick x1 4294967295), .int .i64 (pick x2 256), .int .i64 (1 + pick x3 255), .int .i64 (pick x4 65536), .bool false, .bool false, .int .i64 0, .string ⟨#[]⟩] 26)).drew)
  case first =>
    go_region_held3 (fun w' => w'.cell? ⟨w.heap.size, 0, none⟩ = some (.int .i64 x0) ∧ w'.cell? ⟨w.heap.size, 1, none⟩ = some (.int .i64 x1) ∧ w'.cell? ⟨w.heap.size, 2, none⟩ = some (.int .i64 x2) ∧ w'.cell? ⟨w.heap.size, 3, none⟩ = some (.int .i64 x3) ∧ w'.cell? ⟨w.heap.size, 4, none⟩ = some (.int .i64 x4)) (first | exact ⟨(cell_of_block Hx.out rfl).1, (cell_of_block Hx.out rfl).1, (cell_of_block Hx.out rfl).1, (cell_of_block Hx.out rfl).1, (cell_of_block Hx.out rfl).1⟩ | exact ⟨cell_alloc' _ (cell_of_block Hx.out rfl).1, cell_alloc' _ (cell_of_block Hx.out rfl).1, cell_alloc' _ (cell_of_block Hx.out rfl).1, cell_alloc' _ (cell_of_block Hx.out rfl).1, cell_alloc' _ (cell_of_block Hx.out rfl).1⟩)
      (first | (go_at_call 7; refine (pick_any _ _ _ (by omega) (by omega) (by omega) (by omega)).mono ?_; rintro e w5 ⟨rfl, rfl⟩))
    all_goals (go_wp2_with fail; go_meet; exact ⟨rfl, rfl⟩)
  case rest =>
    obtain ⟨rfl, rfl⟩ := hcut
    clear g0 g1 g3
    have p5 := pick_lt x5 4 (by omega)
    have p6 := pick_lt x6 400 (by omega)
    have p7 := pick_lt x7 301 (by omega)
    have qx5 := (cell_of_block (k := 5) Hx.out rfl).1; have zx5 := (cell_of_block (k := 5) Hx.out rfl).2
    have qx6 := (cell_of_block (k := 6) Hx.out rfl).1; have zx6 := (cell_of_block (k := 6) Hx.out rfl).2
    have qx7 := (cell_of_block (k := 7) Hx.out rfl).1; have zx7 := (cell_of_block (k := 7) Hx.out rfl).2
    have qx8 := (cell_of_block (k := 8) Hx.out rfl).1; have zx8 := (cell_of_block (k := 8) Hx.out rfl).2
    have lt_x := blk_lt Hx.out
    go_wp2_with fail
    refine (pick_any x7 301 _ (by omega) (by omega) (by omega) (by omega)).mono ?_
    rintro e w' ⟨rfl, rfl⟩
    go_wp2_with fail
    refine (pick_any x5 4 _ (by omega) (by omega) (by omega) (by omega)).mono ?_
    rintro e w' ⟨rfl, rfl⟩
    generalize pick x5 4 = fl at *
    have hfl : fl = 0 ∨ fl = 1 ∨ fl = 2 ∨ fl = 3 := by omega
    rcases hfl with rfl | rfl | rfl | rfl
    · clear p5
      go_wp2_with fail
      have Hp := Lib.hid (alloc_new' ((w.alloc (.cells #[.int .i64 x0, .int .i64 x1, .int .i64 x2, .int .i64 x3, .int .i64 x4, .int .i64 x5, .int .i64 x6, .int .i64 x7, .string s] 23)).alloc (.cells #[.int .i64 0, .int .i64 0, .int .i64 0, .int .i64 0, .int .i64 0, .bool false, .bool false, .int .i64 0, .string ⟨#[]⟩] 26)) (.cells #[.int .i64 (1 + pick x0 4294967294), .int .i64 (1 + pick x1 4294967295), .int .i64 (pick x2 256), .int .i64 (1 + pick x3 255), .int .i64 (pick x4 65536), .bool false, .bool false, .int .i64 0, .string ⟨#[]⟩] 26) (w.heap.size + 1 + 1) (by simp))
      have Hx' := Lib.hid (block_alloc Hx.out (.cells #[.int .i64 (1 + pick x0 4294967294), .int .i64 (1 + pick x1 4294967295), .int .i64 (pick x2 256), .int .i64 (1 + pick x3 255), .int .i64 (pick x4 65536), .bool false, .bool false, .int .i64 0, .string ⟨#[]⟩] 26)); clear Hx; have Hx := Hx'; clear Hx'
      have Hr' := Lib.hid (block_alloc Hr.out (.cells #[.int .i64 (1 + pick x0 4294967294), .int .i64 (1 + pick x1 4294967295), .int .i64 (pick x2 256), .int .i64 (1 + pick x3 255), .int .i64 (pick x4 65536), .bool false, .bool false, .int .i64 0, .string ⟨#[]⟩] 26)); clear Hr; have Hr := Hr'; clear Hr'
      have HB' := below_alloc (o := .cells #[.int .i64 (1 + pick x0 4294967294), .int .i64 (1 + pick x1 4294967295), .int .i64 (pick x2 256), .int .i64 (1 + pick x3 255), .int .i64 (pick x4 65536), .bool false, .bool false, .int .i64 0, .string ⟨#[]⟩] 26) HB; clear HB; have HB := HB'; clear HB'
      clear qx5 zx5 qx6 zx6 qx7 zx7 qx8 zx8
      refine (payload_any s (pick x7 301) _ (by omega) (by omega) hs).mono ?_
      rintro e w1 ⟨rfl, hb⟩
      have hb := below_undrew hb
      have Hx' := Lib.hid (bblock hb Hx.out); clear Hx; have Hx := Hx'; clear Hx'
      have Hr' := Lib.hid (bblock hb Hr.out); clear Hr; have Hr := Hr'; clear Hr'
      have Hp' := Lib.hid (bblock hb Hp.out); clear Hp; have Hp := Hp'; clear Hp'
      have HB' := below_call HB hb; clear HB hb; have HB := HB'; clear HB'; have hz1 := HB.size
      have lt_x_1 := blk_lt Hx.out
      have lt_r_1 := blk_lt Hr.out
      have lt_p_1 := blk_lt Hp.out
      clear Hx
      have Sp := cells9 Hp.out
      obtain ⟨⟨qp0, qp1, qp2, qp3, qp4, qp5, qp6, qp7, qp8⟩, zp0, zp1, zp2, zp3, zp4, zp5, zp6, zp7, zp8⟩ := Sp
      have lt_p := blk_lt Hp.out
      have Sr := cells9 Hr.out
      obtain ⟨⟨qr0, qr1, qr2, qr3, qr4, qr5, qr6, qr7, qr8⟩, zr0, zr1, zr2, zr3, zr4, zr5, zr6, zr7, zr8⟩ := Sr
      have lt_r := blk_lt Hr.out
      go_wp2_with fail
      clear qp0 zp0 qp1 zp1 qp2 zp2 qp3 zp3 qp4 zp4 qp5 zp5 qp6 zp6 qp7 zp7 qp8 zp8 qr0 zr0 qr1 zr1 qr2 zr2 qr3 zr3 qr4 zr4 qr5 zr5 qr6 zr6 qr7 zr7 qr8 zr8
      have Hr' := Lib.hid (block_set_other (a := ⟨w.heap.size + 1 + 1, 8, none⟩) (u := .string ⟨(payload s (pick x7 301).toNat).toArray⟩) Hr.out (by first | (simp; done) | (simp; omega))); clear Hr; have Hr := Hr'; clear Hr'
      have Hp' := Lib.hid (cells_eq (b := #[.int .i64 (1 + pick x0 4294967294), .int .i64 (1 + pick x1 4294967295), .int .i64 (pick x2 256), .int .i64 (1 + pick x3 255), .int .i64 (pick x4 65536), .bool false, .bool false, .int .i64 0, .string ⟨(payload s (pick x7 301).toNat).toArray⟩]) (block_setCell (k := 8) (v := .string ⟨(payload s (pick x7 301).toNat).toArray⟩) Hp.out) rfl); clear Hp; have Hp := Hp'; clear Hp'
      have HB' := Below.setCell HB (p := ⟨w.heap.size + 1 + 1, 8, none⟩) (by first | (simp; done) | (simp; omega)) (.string ⟨(payload s (pick x7 301).toNat).toArray⟩); clear HB; have HB := HB'; clear HB'
      have Hp' := Lib.hid (block_set_other (a := ⟨w.heap.size + 1, 0, none⟩) (u := .int .i64 (1 + pick x0 4294967294)) Hp.out (by first | (simp; done) | (simp; omega))); clear Hp; have Hp := Hp'; clear Hp'
      have Hr' := Lib.hid (cells_eq (b := #[.int .i64 (1 + pick x0 4294967294), .int .i64 0, .int .i64 0, .int .i64 0, .int .i64 0, .bool false, .bool false, .int .i64 0, .string ⟨#[]⟩]) (block_setCell (k := 0) (v := .int .i64 (1 + pick x0 4294967294)) Hr.out) rfl); clear Hr; have Hr := Hr'; clear Hr'
      have HB' := Below.setCell HB (p := ⟨w.heap.size + 1, 0, none⟩) (by first | (simp; done) | (simp; omega)) (.int .i64 (1 + pick x0 4294967294)); clear HB; have HB := HB'; clear HB'
      have Hp' := Lib.hid (block_set_other (a := ⟨w.heap.size + 1, 1, none⟩) (u := .int .i64 (1 + pick x1 4294967295)) Hp.out (by first | (simp; done) | (simp; omega))); clear Hp; have Hp := Hp'; clear Hp'
      have Hr' := Lib.hid (cells_eq (b := #[.int .i64 (1 + pick x0 4294967294), .int .i64 (1 + pick x1 4294967295), .int .i64 0, .int .i64 0, .int .i64 0, .bool false, .bool false, .int .i64 0, .string ⟨#[]⟩]) (block_setCell (k := 1) (v := .int .i64 (1 + pick x1 4294967295)) Hr.out) rfl); clear Hr; have Hr := Hr'; clear Hr'
      have HB' := Below.setCell HB (p := ⟨w.heap.size + 1, 1, none⟩) (by first | (simp; done) | (simp; omega)) (.int .i64 (1 + pick x1 4294967295)); clear HB; have HB := HB'; clear HB'
      have Hp' := Lib.hid (block_set_other (a := ⟨w.heap.size + 1, 2, none⟩) (u := .int .i64 (pick x2 256)) Hp.out (by first | (simp; done) | (simp; omega))); clear Hp; have Hp := Hp'; clear Hp'
      have Hr' := Lib.hid (cells_eq (b := #[.int .i64 (1 + pick x0 4294967294), .int .i64 (1 + pick x1 4294967295), .int .i64 (pick x2 256), .int .i64 0, .int .i64 0, .bool false, .bool false, .int .i64 0, .string ⟨#[]⟩]) (block_setCell (k := 2) (v := .int .i64 (pick x2 256)) Hr.out) rfl); clear Hr; have Hr := Hr'; clear Hr'
      have HB' := Below.setCell HB (p := ⟨w.heap.size + 1, 2, none⟩) (by first | (simp; done) | (simp; omega)) (.int .i64 (pick x2 256)); clear HB; have HB := HB'; clear HB'
      have Hp' := Lib.hid (block_set_other (a := ⟨w.heap.size + 1, 3, none⟩) (u := .int .i64 (1 + pick x3 255)) Hp.out (by first | (simp; done) | (simp; omega))); clear Hp; have Hp := Hp'; clear Hp'
      have Hr' := Lib.hid (cells_eq (b := #[.int .i64 (1 + pick x0 4294967294), .int .i64 (1 + pick x1 4294967295), .int .i64 (pick x2 256), .int .i64 (1 + pick x3 255), .int .i64 0, .bool false, .bool false, .int .i64 0, .string ⟨#[]⟩]) (block_setCell (k := 3) (v := .int .i64 (1 + pick x3 255)) Hr.out) rfl); clear Hr; have Hr := Hr'; clear Hr'
      have HB' := Below.setCell HB (p := ⟨w.heap.size + 1, 3, none⟩) (by first | (simp; done) | (simp; omega)) (.int .i64 (1 + pick x3 255)); clear HB; have HB := HB'; clear HB'
      have Hp' := Lib.hid (block_set_other (a := ⟨w.heap.size + 1, 4, none⟩) (u := .int .i64 (pick x4 65536)) Hp.out (by first | (simp; done) | (simp; omega))); clear Hp; have Hp := Hp'; clear Hp'
      have Hr' := Lib.hid (cells_eq (b := #[.int .i64 (1 + pick x0 4294967294), .int .i64 (1 + pick x1 4294967295), .int .i64 (pick x2 256), .int .i64 (1 + pick x3 255), .int .i64 (pick x4 65536), .bool false, .bool false, .int .i64 0, .string ⟨#[]⟩]) (block_setCell (k := 4) (v := .int .i64 (pick x4 65536)) Hr.out) rfl); clear Hr; have Hr := Hr'; clear Hr'
      have HB' := Below.setCell HB (p := ⟨w.heap.size + 1, 4, none⟩) (by first | (simp; done) | (simp; omega)) (.int .i64 (pick x4 65536)); clear HB; have HB := HB'; clear HB'
      have Hp' := Lib.hid (block_set_other (a := ⟨w.heap.size + 1, 5, none⟩) (u := .bool false) Hp.out (by first | (simp; done) | (simp; omega))); clear Hp; have Hp := Hp'; clear Hp'
      have Hr' := Lib.hid (cells_eq (b := #[.int .i64 (1 + pick x0 4294967294), .int .i64 (1 + pick x1 4294967295), .int .i64 (pick x2 256), .int .i64 (1 + pick x3 255), .int .i64 (pick x4 65536), .bool false, .bool false, .int .i64 0, .string ⟨#[]⟩]) (block_setCell (k := 5) (v := .bool false) Hr.out) rfl); clear Hr; have Hr := Hr'; clear Hr'
      have HB' := Below.setCell HB (p := ⟨w.heap.size + 1, 5, none⟩) (by first | (simp; done) | (simp; omega)) (.bool false); clear HB; have HB := HB'; clear HB'
      have Hp' := Lib.hid (block_set_other (a := ⟨w.heap.size + 1, 6, none⟩) (u := .bool false) Hp.out (by first | (simp; done) | (simp; omega))); clear Hp; have Hp := Hp'; clear Hp'
      have Hr' := Lib.hid (cells_eq (b := #[.int .i64 (1 + pick x0 4294967294), .int .i64 (1 + pick x1 4294967295), .int .i64 (pick x2 256), .int .i64 (1 + pick x3 255), .int .i64 (pick x4 65536), .bool false, .bool false, .int .i64 0, .string ⟨#[]⟩]) (block_setCell (k := 6) (v := .bool false) Hr.out) rfl); clear Hr; have Hr := Hr'; clear Hr'
      have HB' := Below.setCell HB (p := ⟨w.heap.size + 1, 6, none⟩) (by first | (simp; done) | (simp; omega)) (.bool false); clear HB; have HB := HB'; clear HB'
      have Hp' := Lib.hid (block_set_other (a := ⟨w.heap.size + 1, 7, none⟩) (u := .int .i64 0) Hp.out (by first | (simp; done) | (simp; omega))); clear Hp; have Hp := Hp'; clear Hp'
      have Hr' := Lib.hid (cells_eq (b := #[.int .i64 (1 + pick x0 4294967294), .int .i64 (1 + pick x1 4294967295), .int .i64 (pick x2 256), .int .i64 (1 + pick x3 255), .int .i64 (pick x4 65536), .bool false, .bool false, .int .i64 0, .string ⟨#[]⟩]) (block_setCell (k := 7) (v := .int .i64 0) Hr.out) rfl); clear Hr; have Hr := Hr'; clear Hr'
      have HB' := Below.setCell HB (p := ⟨w.heap.size + 1, 7, none⟩) (by first | (simp; done) | (simp; omega)) (.int .i64 0); clear HB; have HB := HB'; clear HB'
      have Hp' := Lib.hid (block_set_other (a := ⟨w.heap.size + 1, 8, none⟩) (u := .string ⟨(payload s (pick x7 301).toNat).toArray⟩) Hp.out (by first | (simp; done) | (simp; omega))); clear Hp; have Hp := Hp'; clear Hp'
      have Hr' := Lib.hid (cells_eq (b := #[.int .i64 (1 + pick x0 4294967294), .int .i64 (1 + pick x1 4294967295), .int .i64 (pick x2 256), .int .i64 (1 + pick x3 255), .int .i64 (pick x4 65536), .bool false, .bool false, .int .i64 0, .string ⟨(payload s (pick x7 301).toNat).toArray⟩]) (block_setCell (k := 8) (v := .string ⟨(payload s (pick x7 301).toNat).toArray⟩) Hr.out) rfl); clear Hr; have Hr := Hr'; clear Hr'
      have HB' := Below.setCell HB (p := ⟨w.heap.size + 1, 8, none⟩) (by first | (simp; done) | (simp; omega)) (.string ⟨(payload s (pick x7 301).toNat).toArray⟩); clear HB; have HB := HB'; clear HB'
      refine bodyPost_ret (v := .agg #[.int .i64 (1 + pick x0 4294967294), .int .i64 (1 + pick x1 4294967295), .int .i64 (pick x2 256), .int .i64 (1 + pick x3 255), .int .i64 (pick x4 65536), .bool false, .bool false, .int .i64 0, .string ⟨(payload s (pick x7 301).toNat).toArray⟩]) ?_ rfl ?_
      · exact res_cell1 Tryd.results5 Hr.out rfl Tryd.underlying26 rfl (by kernel_rfl)
      · refine ⟨⟨(1 + pick x0 4294967294), (1 + pick x1 4294967295), (pick x2 256), (1 + pick x3 255), (pick x4 65536), false, false, 0, ⟨(payload s (pick x7 301).toNat).toArray⟩⟩, ?_, ?_, rfl, HB⟩
        · unfold Pk.ok VLen; simp only [sz, payload_length]; simp; omega
        · simp only [sz, payload_length]; omega
    · clear p5
      go_wp2_with fail
      have Hp := Lib.hid (alloc_new' ((w.alloc (.cells #[.int .i64 x0, .int .i64 x1, .int .i64 x2, .int .i64 x3, .int .i64 x4, .int .i64 x5, .int .i64 x6, .int .i64 x7, .string s] 23)).alloc (.cells #[.int .i64 0, .int .i64 0, .int .i64 0, .int .i64 0, .int .i64 0, .bool false, .bool false, .int .i64 0, .string ⟨#[]⟩] 26)) (.cells #[.int .i64 (1 + pick x0 4294967294), .int .i64 (1 + pick x1 4294967295), .int .i64 (pick x2 256), .int .i64 (1 + pick x3 255), .int .i64 (pick x4 65536), .bool true, .bool false, .int .i64 0, .string ⟨#[]⟩] 26) (w.heap.size + 1 + 1) (by simp))
      have Hx' := Lib.hid (block_alloc Hx.out (.cells #[.int .i64 (1 + pick x0 4294967294), .int .i64 (1 + pick x1 4294967295), .int .i64 (pick x2 256), .int .i64 (1 + pick x3 255), .int .i64 (pick x4 65536), .bool true, .bool false, .int .i64 0, .string ⟨#[]⟩] 26)); clear Hx; have Hx := Hx'; clear Hx'
      have Hr' := Lib.hid (block_alloc Hr.out (.cells #[.int .i64 (1 + pick x0 4294967294), .int .i64 (1 + pick x1 4294967295), .int .i64 (pick x2 256), .int .i64 (1 + pick x3 255), .int .i64 (pick x4 65536), .bool true, .bool false, .int .i64 0, .string ⟨#[]⟩] 26)); clear Hr; have Hr := Hr'; clear Hr'
      have HB' := below_alloc (o := .cells #[.int .i64 (1 + pick x0 4294967294), .int .i64 (1 + pick x1 4294967295), .int .i64 (pick x2 256), .int .i64 (1 + pick x3 255), .int .i64 (pick x4 65536), .bool true, .bool false, .int .i64 0, .string ⟨#[]⟩] 26) HB; clear HB; have HB := HB'; clear HB'
      clear qx5 zx5 qx6 zx6 qx7 zx7 qx8 zx8
      refine (payload_any s (pick x7 301) _ (by omega) (by omega) hs).mono ?_
      rintro e w1 ⟨rfl, hb⟩
      have hb := below_undrew hb
      have Hx' := Lib.hid (bblock hb Hx.out); clear Hx; have Hx := Hx'; clear Hx'
      have Hr' := Lib.hid (bblock hb Hr.out); clear Hr; have Hr := Hr'; clear Hr'
      have Hp' := Lib.hid (bblock hb Hp.out); clear Hp; have Hp := Hp'; clear Hp'
      have HB' := below_call HB hb; clear HB hb; have HB := HB'; clear HB'; have hz1 := HB.size
      have lt_x_1 := blk_lt Hx.out
      have lt_r_1 := blk_lt Hr.out
      have lt_p_1 := blk_lt Hp.out
      clear Hx
      have Sp := cells9 Hp.out
      obtain ⟨⟨qp0, qp1, qp2, qp3, qp4, qp5, qp6, qp7, qp8⟩, zp0, zp1, zp2, zp3, zp4, zp5, zp6, zp7, zp8⟩ := Sp
      have lt_p := blk_lt Hp.out
      have Sr := cells9 Hr.out
      obtain ⟨⟨qr0, qr1, qr2, qr3, qr4, qr5, qr6, qr7, qr8⟩, zr0, zr1, zr2, zr3, zr4, zr5, zr6, zr7, zr8⟩ := Sr
      have lt_r := blk_lt Hr.out
      go_wp2_with fail
      clear qp0 zp0 qp1 zp1 qp2 zp2 qp3 zp3 qp4 zp4 qp5 zp5 qp6 zp6 qp7 zp7 qp8 zp8 qr0 zr0 qr1 zr1 qr2 zr2 qr3 zr3 qr4 zr4 qr5 zr5 qr6 zr6 qr7 zr7 qr8 zr8
      have Hr' := Lib.hid (block_set_other (a := ⟨w.heap.size + 1 + 1, 8, none⟩) (u := .string ⟨(payload s (pick x7 301).toNat).toArray⟩) Hr.out (by first | (simp; done) | (simp; omega))); clear Hr; have Hr := Hr'; clear Hr'
      have Hp' := Lib.hid (cells_eq (b := #[.int .i64 (1 + pick x0 4294967294), .int .i64 (1 + pick x1 4294967295), .int .i64 (pick x2 256), .int .i64 (1 + pick x3 255), .int .i64 (pick x4 65536), .bool true, .bool false, .int .i64 0, .string ⟨(payload s (pick x7 301).toNat).toArray⟩]) (block_setCell (k := 8) (v := .string ⟨(payload s (pick x7 301).toNat).toArray⟩) Hp.out) rfl); clear Hp; have Hp := Hp'; clear Hp'
      have HB' := Below.setCell HB (p := ⟨w.heap.size + 1 + 1, 8, none⟩) (by first | (simp; done) | (simp; omega)) (.string ⟨(payload s (pick x7 301).toNat).toArray⟩); clear HB; have HB := HB'; clear HB'
      have Hp' := Lib.hid (block_set_other (a := ⟨w.heap.size + 1, 0, none⟩) (u := .int .i64 (1 + pick x0 4294967294)) Hp.out (by first | (simp; done) | (simp; omega))); clear Hp; have Hp := Hp'; clear Hp'
      have Hr' := Lib.hid (cells_eq (b := #[.int .i64 (1 + pick x0 4294967294), .int .i64 0, .int .i64 0, .int .i64 0, .int .i64 0, .bool false, .bool false, .int .i64 0, .string ⟨#[]⟩]) (block_setCell (k := 0) (v := .int .i64 (1 + pick x0 4294967294)) Hr.out) rfl); clear Hr; have Hr := Hr'; clear Hr'
      have HB' := Below.setCell HB (p := ⟨w.heap.size + 1, 0, none⟩) (by first | (simp; done) | (simp; omega)) (.int .i64 (1 + pick x0 4294967294)); clear HB; have HB := HB'; clear HB'
      have Hp' := Lib.hid (block_set_other (a := ⟨w.heap.size + 1, 1, none⟩) (u := .int .i64 (1 + pick x1 4294967295)) Hp.out (by first | (simp; done) | (simp; omega))); clear Hp; have Hp := Hp'; clear Hp'
      have Hr' := Lib.hid (cells_eq (b := #[.int .i64 (1 + pick x0 4294967294), .int .i64 (1 + pick x1 4294967295), .int .i64 0, .int .i64 0, .int .i64 0, .bool false, .bool false, .int .i64 0, .string ⟨#[]⟩]) (block_setCell (k := 1) (v := .int .i64 (1 + pick x1 4294967295)) Hr.out) rfl); clear Hr; have Hr := Hr'; clear Hr'
      have HB' := Below.setCell HB (p := ⟨w.heap.size + 1, 1, none⟩) (by first | (simp; done) | (simp; omega)) (.int .i64 (1 + pick x1 4294967295)); clear HB; have HB := HB'; clear HB'
      have Hp' := Lib.hid (block_set_other (a := ⟨w.heap.size + 1, 2, none⟩) (u := .int .i64 (pick x2 256)) Hp.out (by first | (simp; done) | (simp; omega))); clear Hp; have Hp := Hp'; clear Hp'
      have Hr' := Lib.hid (cells_eq (b := #[.int .i64 (1 + pick x0 4294967294), .int .i64 (1 + pick x1 4294967295), .int .i64 (pick x2 256), .int .i64 0, .int .i64 0, .bool false, .bool false, .int .i64 0, .string ⟨#[]⟩]) (block_setCell (k := 2) (v := .int .i64 (pick x2 256)) Hr.out) rfl); clear Hr; have Hr := Hr'; clear Hr'
      have HB' := Below.setCell HB (p := ⟨w.heap.size + 1, 2, none⟩) (by first | (simp; done) | (simp; omega)) (.int .i64 (pick x2 256)); clear HB; have HB := HB'; clear HB'
      have Hp' := Lib.hid (block_set_other (a := ⟨w.heap.size + 1, 3, none⟩) (u := .int .i64 (1 + pick x3 255)) Hp.out (by first | (simp; done) | (simp; omega))); clear Hp; have Hp := Hp'; clear Hp'
      have Hr' := Lib.hid (cells_eq (b := #[.int .i64 (1 + pick x0 4294967294), .int .i64 (1 + pick x1 4294967295), .int .i64 (pick x2 256), .int .i64 (1 + pick x3 255), .int .i64 0, .bool false, .bool false, .int .i64 0, .string ⟨#[]⟩]) (block_setCell (k := 3) (v := .int .i64 (1 + pick x3 255)) Hr.out) rfl); clear Hr; have Hr := Hr'; clear Hr'
      have HB' := Below.setCell HB (p := ⟨w.heap.size + 1, 3, none⟩) (by first | (simp; done) | (simp; omega)) (.int .i64 (1 + pick x3 255)); clear HB; have HB := HB'; clear HB'
      have Hp' := Lib.hid (block_set_other (a := ⟨w.heap.size + 1, 4, none⟩) (u := .int .i64 (pick x4 65536)) Hp.out (by first | (simp; done) | (simp; omega))); clear Hp; have Hp := Hp'; clear Hp'
      have Hr' := Lib.hid (cells_eq (b := #[.int .i64 (1 + pick x0 4294967294), .int .i64 (1 + pick x1 4294967295), .int .i64 (pick x2 256), .int .i64 (1 + pick x3 255), .int .i64 (pick x4 65536), .bool false, .bool false, .int .i64 0, .string ⟨#[]⟩]) (block_setCell (k := 4) (v := .int .i64 (pick x4 65536)) Hr.out) rfl); clear Hr; have Hr := Hr'; clear Hr'
      have HB' := Below.setCell HB (p := ⟨w.heap.size + 1, 4, none⟩) (by first | (simp; done) | (simp; omega)) (.int .i64 (pick x4 65536)); clear HB; have HB := HB'; clear HB'
      have Hp' := Lib.hid (block_set_other (a := ⟨w.heap.size + 1, 5, none⟩) (u := .bool true) Hp.out (by first | (simp; done) | (simp; omega))); clear Hp; have Hp := Hp'; clear Hp'
      have Hr' := Lib.hid (cells_eq (b := #[.int .i64 (1 + pick x0 4294967294), .int .i64 (1 + pick x1 4294967295), .int .i64 (pick x2 256), .int .i64 (1 + pick x3 255), .int .i64 (pick x4 65536), .bool true, .bool false, .int .i64 0, .string ⟨#[]⟩]) (block_setCell (k := 5) (v := .bool true) Hr.out) rfl); clear Hr; have Hr := Hr'; clear Hr'
      have HB' := Below.setCell HB (p := ⟨w.heap.size + 1, 5, none⟩) (by first | (simp; done) | (simp; omega)) (.bool true); clear HB; have HB := HB'; clear HB'
      have Hp' := Lib.hid (block_set_other (a := ⟨w.heap.size + 1, 6, none⟩) (u := .bool false) Hp.out (by first | (simp; done) | (simp; omega))); clear Hp; have Hp := Hp'; clear Hp'
      have Hr' := Lib.hid (cells_eq (b := #[.int .i64 (1 + pick x0 4294967294), .int .i64 (1 + pick x1 4294967295), .int .i64 (pick x2 256), .int .i64 (1 + pick x3 255), .int .i64 (pick x4 65536), .bool true, .bool false, .int .i64 0, .string ⟨#[]⟩]) (block_setCell (k := 6) (v := .bool false) Hr.out) rfl); clear Hr; have Hr := Hr'; clear Hr'
      have HB' := Below.setCell HB (p := ⟨w.heap.size + 1, 6, none⟩) (by first | (simp; done) | (simp; omega)) (.bool false); clear HB; have HB := HB'; clear HB'
      have Hp' := Lib.hid (block_set_other (a := ⟨w.heap.size + 1, 7, none⟩) (u := .int .i64 0) Hp.out (by first | (simp; done) | (simp; omega))); clear Hp; have Hp := Hp'; clear Hp'
      have Hr' := Lib.hid (cells_eq (b := #[.int .i64 (1 + pick x0 4294967294), .int .i64 (1 + pick x1 4294967295), .int .i64 (pick x2 256), .int .i64 (1 + pick x3 255), .int .i64 (pick x4 65536), .bool true, .bool false, .int .i64 0, .string ⟨#[]⟩]) (block_setCell (k := 7) (v := .int .i64 0) Hr.out) rfl); clear Hr; have Hr := Hr'; clear Hr'
      have HB' := Below.setCell HB (p := ⟨w.heap.size + 1, 7, none⟩) (by first | (simp; done) | (simp; omega)) (.int .i64 0); clear HB; have HB := HB'; clear HB'
      have Hp' := Lib.hid (block_set_other (a := ⟨w.heap.size + 1, 8, none⟩) (u := .string ⟨(payload s (pick x7 301).toNat).toArray⟩) Hp.out (by first | (simp; done) | (simp; omega))); clear Hp; have Hp := Hp'; clear Hp'
      have Hr' := Lib.hid (cells_eq (b := #[.int .i64 (1 + pick x0 4294967294), .int .i64 (1 + pick x1 4294967295), .int .i64 (pick x2 256), .int .i64 (1 + pick x3 255), .int .i64 (pick x4 65536), .bool true, .bool false, .int .i64 0, .string ⟨(payload s (pick x7 301).toNat).toArray⟩]) (block_setCell (k := 8) (v := .string ⟨(payload s (pick x7 301).toNat).toArray⟩) Hr.out) rfl); clear Hr; have Hr := Hr'; clear Hr'
      have HB' := Below.setCell HB (p := ⟨w.heap.size + 1, 8, none⟩) (by first | (simp; done) | (simp; omega)) (.string ⟨(payload s (pick x7 301).toNat).toArray⟩); clear HB; have HB := HB'; clear HB'
      refine bodyPost_ret (v := .agg #[.int .i64 (1 + pick x0 4294967294), .int .i64 (1 + pick x1 4294967295), .int .i64 (pick x2 256), .int .i64 (1 + pick x3 255), .int .i64 (pick x4 65536), .bool true, .bool false, .int .i64 0, .string ⟨(payload s (pick x7 301).toNat).toArray⟩]) ?_ rfl ?_
      · exact res_cell1 Tryd.results5 Hr.out rfl Tryd.underlying26 rfl (by kernel_rfl)
      · refine ⟨⟨(1 + pick x0 4294967294), (1 + pick x1 4294967295), (pick x2 256), (1 + pick x3 255), (pick x4 65536), true, false, 0, ⟨(payload s (pick x7 301).toNat).toArray⟩⟩, ?_, ?_, rfl, HB⟩
        · unfold Pk.ok VLen; simp only [sz, payload_length]; simp; omega
        · simp only [sz, payload_length]; omega
    · clear p5
      go_wp2_with fail
      refine (pick_any x6 400 _ (by omega) (by omega) (by omega) (by omega)).mono ?_
      rintro e w' ⟨rfl, rfl⟩
      go_wp2_with fail
      have Hp := Lib.hid (alloc_new' ((w.alloc (.cells #[.int .i64 x0, .int .i64 x1, .int .i64 x2, .int .i64 x3, .int .i64 x4, .int .i64 x5, .int .i64 x6, .int .i64 x7, .string s] 23)).alloc (.cells #[.int .i64 0, .int .i64 0, .int .i64 0, .int .i64 0, .int .i64 0, .bool false, .bool false, .int .i64 0, .string ⟨#[]⟩] 26)) (.cells #[.int .i64 (1 + pick x0 4294967294), .int .i64 (1 + pick x1 4294967295), .int .i64 (pick x2 256), .int .i64 (1 + pick x3 255), .int .i64 (pick x4 65536), .bool false, .bool true, .int .i64 (8 * pick x6 400), .string ⟨#[]⟩] 26) (w.heap.size + 1 + 1) (by simp))
      have Hx' := Lib.hid (block_alloc Hx.out (.cells #[.int .i64 (1 + pick x0 4294967294), .int .i64 (1 + pick x1 4294967295), .int .i64 (pick x2 256), .int .i64 (1 + pick x3 255), .int .i64 (pick x4 65536), .bool false, .bool true, .int .i64 (8 * pick x6 400), .string ⟨#[]⟩] 26)); clear Hx; have Hx := Hx'; clear Hx'
      have Hr' := Lib.hid (block_alloc Hr.out (.cells #[.int .i64 (1 + pick x0 4294967294), .int .i64 (1 + pick x1 4294967295), .int .i64 (pick x2 256), .int .i64 (1 + pick x3 255), .int .i64 (pick x4 65536), .bool false, .bool true, .int .i64 (8 * pick x6 400), .string ⟨#[]⟩] 26)); clear Hr; have Hr := Hr'; clear Hr'
      have HB' := below_alloc (o := .cells #[.int .i64 (1 + pick x0 4294967294), .int .i64 (1 + pick x1 4294967295), .int .i64 (pick x2 256), .int .i64 (1 + pick x3 255), .int .i64 (pick x4 65536), .bool false, .bool true, .int .i64 (8 * pick x6 400), .string ⟨#[]⟩] 26) HB; clear HB; have HB := HB'; clear HB'
      clear qx5 zx5 qx6 zx6 qx7 zx7 qx8 zx8
      refine (payload_any s (max (pick x7 301 / 8 * 8) 8) _ (by omega) (by omega) hs).mono ?_
      rintro e w1 ⟨rfl, hb⟩
      have hb := below_undrew hb
      have Hx' := Lib.hid (bblock hb Hx.out); clear Hx; have Hx := Hx'; clear Hx'
      have Hr' := Lib.hid (bblock hb Hr.out); clear Hr; have Hr := Hr'; clear Hr'
      have Hp' := Lib.hid (bblock hb Hp.out); clear Hp; have Hp := Hp'; clear Hp'
      have HB' := below_call HB hb; clear HB hb; have HB := HB'; clear HB'; have hz1 := HB.size
      have lt_x_1 := blk_lt Hx.out
      have lt_r_1 := blk_lt Hr.out
      have lt_p_1 := blk_lt Hp.out
      clear Hx
      have Sp := cells9 Hp.out
      obtain ⟨⟨qp0, qp1, qp2, qp3, qp4, qp5, qp6, qp7, qp8⟩, zp0, zp1, zp2, zp3, zp4, zp5, zp6, zp7, zp8⟩ := Sp
      have lt_p := blk_lt Hp.out
      have Sr := cells9 Hr.out
      obtain ⟨⟨qr0, qr1, qr2, qr3, qr4, qr5, qr6, qr7, qr8⟩, zr0, zr1, zr2, zr3, zr4, zr5, zr6, zr7, zr8⟩ := Sr
      have lt_r := blk_lt Hr.out
      go_wp2_with fail
      clear qp0 zp0 qp1 zp1 qp2 zp2 qp3 zp3 qp4 zp4 qp5 zp5 qp6 zp6 qp7 zp7 qp8 zp8 qr0 zr0 qr1 zr1 qr2 zr2 qr3 zr3 qr4 zr4 qr5 zr5 qr6 zr6 qr7 zr7 qr8 zr8
      have Hr' := Lib.hid (block_set_other (a := ⟨w.heap.size + 1 + 1, 8, none⟩) (u := .string ⟨(payload s (max (pick x7 301 / 8 * 8) 8).toNat).toArray⟩) Hr.out (by first | (simp; done) | (simp; omega))); clear Hr; have Hr := Hr'; clear Hr'
      have Hp' := Lib.hid (cells_eq (b := #[.int .i64 (1 + pick x0 4294967294), .int .i64 (1 + pick x1 4294967295), .int .i64 (pick x2 256), .int .i64 (1 + pick x3 255), .int .i64 (pick x4 65536), .bool false, .bool true, .int .i64 (8 * pick x6 400), .string ⟨(payload s (max (pick x7 301 / 8 * 8) 8).toNat).toArray⟩]) (block_setCell (k := 8) (v := .string ⟨(payload s (max (pick x7 301 / 8 * 8) 8).toNat).toArray⟩) Hp.out) rfl); clear Hp; have Hp := Hp'; clear Hp'
      have HB' := Below.setCell HB (p := ⟨w.heap.size + 1 + 1, 8, none⟩) (by first | (simp; done) | (simp; omega)) (.string ⟨(payload s (max (pick x7 301 / 8 * 8) 8).toNat).toArray⟩); clear HB; have HB := HB'; clear HB'
      have Hp' := Lib.hid (block_set_other (a := ⟨w.heap.size + 1, 0, none⟩) (u := .int .i64 (1 + pick x0 4294967294)) Hp.out (by first | (simp; done) | (simp; omega))); clear Hp; have Hp := Hp'; clear Hp'
      have Hr' := Lib.hid (cells_eq (b := #[.int .i64 (1 + pick x0 4294967294), .int .i64 0, .int .i64 0, .int .i64 0, .int .i64 0, .bool false, .bool false, .int .i64 0, .string ⟨#[]⟩]) (block_setCell (k := 0) (v := .int .i64 (1 + pick x0 4294967294)) Hr.out) rfl); clear Hr; have Hr := Hr'; clear Hr'
      have HB' := Below.setCell HB (p := ⟨w.heap.size + 1, 0, none⟩) (by first | (simp; done) | (simp; omega)) (.int .i64 (1 + pick x0 4294967294)); clear HB; have HB := HB'; clear HB'
      have Hp' := Lib.hid (block_set_other (a := ⟨w.heap.size + 1, 1, none⟩) (u := .int .i64 (1 + pick x1 4294967295)) Hp.out (by first | (simp; done) | (simp; omega))); clear Hp; have Hp := Hp'; clear Hp'
      have Hr' := Lib.hid (cells_eq (b := #[.int .i64 (1 + pick x0 4294967294), .int .i64 (1 + pick x1 4294967295), .int .i64 0, .int .i64 0, .int .i64 0, .bool false, .bool false, .int .i64 0, .string ⟨#[]⟩]) (block_setCell (k := 1) (v := .int .i64 (1 + pick x1 4294967295)) Hr.out) rfl); clear Hr; have Hr := Hr'; clear Hr'
      have HB' := Below.setCell HB (p := ⟨w.heap.size + 1, 1, none⟩) (by first | (simp; done) | (simp; omega)) (.int .i64 (1 + pick x1 4294967295)); clear HB; have HB := HB'; clear HB'
      have Hp' := Lib.hid (block_set_other (a := ⟨w.heap.size + 1, 2, none⟩) (u := .int .i64 (pick x2 256)) Hp.out (by first | (simp; done) | (simp; omega))); clear Hp; have Hp := Hp'; clear Hp'
      have Hr' := Lib.hid (cells_eq (b := #[.int .i64 (1 + pick x0 4294967294), .int .i64 (1 + pick x1 4294967295), .int .i64 (pick x2 256), .int .i64 0, .int .i64 0, .bool false, .bool false, .int .i64 0, .string ⟨#[]⟩]) (block_setCell (k := 2) (v := .int .i64 (pick x2 256)) Hr.out) rfl); clear Hr; have Hr := Hr'; clear Hr'
      have HB' := Below.setCell HB (p := ⟨w.heap.size + 1, 2, none⟩) (by first | (simp; done) | (simp; omega)) (.int .i64 (pick x2 256)); clear HB; have HB := HB'; clear HB'
      have Hp' := Lib.hid (block_set_other (a := ⟨w.heap.size + 1, 3, none⟩) (u := .int .i64 (1 + pick x3 255)) Hp.out (by first | (simp; done) | (simp; omega))); clear Hp; have Hp := Hp'; clear Hp'
      have Hr' := Lib.hid (cells_eq (b := #[.int .i64 (1 + pick x0 4294967294), .int .i64 (1 + pick x1 4294967295), .int .i64 (pick x2 256), .int .i64 (1 + pick x3 255), .int .i64 0, .bool false, .bool false, .int .i64 0, .string ⟨#[]⟩]) (block_setCell (k := 3) (v := .int .i64 (1 + pick x3 255)) Hr.out) rfl); clear Hr; have Hr := Hr'; clear Hr'
      have HB' := Below.setCell HB (p := ⟨w.heap.size + 1, 3, none⟩) (by first | (simp; done) | (simp; omega)) (.int .i64 (1 + pick x3 255)); clear HB; have HB := HB'; clear HB'
      have Hp' := Lib.hid (block_set_other (a := ⟨w.heap.size + 1, 4, none⟩) (u := .int .i64 (pick x4 65536)) Hp.out (by first | (simp; done) | (simp; omega))); clear Hp; have Hp := Hp'; clear Hp'
      have Hr' := Lib.hid (cells_eq (b := #[.int .i64 (1 + pick x0 4294967294), .int .i64 (1 + pick x1 4294967295), .int .i64 (pick x2 256), .int .i64 (1 + pick x3 255), .int .i64 (pick x4 65536), .bool false, .bool false, .int .i64 0, .string ⟨#[]⟩]) (block_setCell (k := 4) (v := .int .i64 (pick x4 65536)) Hr.out) rfl); clear Hr; have Hr := Hr'; clear Hr'
      have HB' := Below.setCell HB (p := ⟨w.heap.size + 1, 4, none⟩) (by first | (simp; done) | (simp; omega)) (.int .i64 (pick x4 65536)); clear HB; have HB := HB'; clear HB'
      have Hp' := Lib.hid (block_set_other (a := ⟨w.heap.size + 1, 5, none⟩) (u := .bool false) Hp.out (by first | (simp; done) | (simp; omega))); clear Hp; have Hp := Hp'; clear Hp'
      have Hr' := Lib.hid (cells_eq (b := #[.int .i64 (1 + pick x0 4294967294), .int .i64 (1 + pick x1 4294967295), .int .i64 (pick x2 256), .int .i64 (1 + pick x3 255), .int .i64 (pick x4 65536), .bool false, .bool false, .int .i64 0, .string ⟨#[]⟩]) (block_setCell (k := 5) (v := .bool false) Hr.out) rfl); clear Hr; have Hr := Hr'; clear Hr'
      have HB' := Below.setCell HB (p := ⟨w.heap.size + 1, 5, none⟩) (by first | (simp; done) | (simp; omega)) (.bool false); clear HB; have HB := HB'; clear HB'
      have Hp' := Lib.hid (block_set_other (a := ⟨w.heap.size + 1, 6, none⟩) (u := .bool true) Hp.out (by first | (simp; done) | (simp; omega))); clear Hp; have Hp := Hp'; clear Hp'
      have Hr' := Lib.hid (cells_eq (b := #[.int .i64 (1 + pick x0 4294967294), .int .i64 (1 + pick x1 4294967295), .int .i64 (pick x2 256), .int .i64 (1 + pick x3 255), .int .i64 (pick x4 65536), .bool false, .bool true, .int .i64 0, .string ⟨#[]⟩]) (block_setCell (k := 6) (v := .bool true) Hr.out) rfl); clear Hr; have Hr := Hr'; clear Hr'
      have HB' := Below.setCell HB (p := ⟨w.heap.size + 1, 6, none⟩) (by first | (simp; done) | (simp; omega)) (.bool true); clear HB; have HB := HB'; clear HB'
      have Hp' := Lib.hid (block_set_other (a := ⟨w.heap.size + 1, 7, none⟩) (u := .int .i64 (8 * pick x6 400)) Hp.out (by first | (simp; done) | (simp; omega))); clear Hp; have Hp := Hp'; clear Hp'
      have Hr' := Lib.hid (cells_eq (b := #[.int .i64 (1 + pick x0 4294967294), .int .i64 (1 + pick x1 4294967295), .int .i64 (pick x2 256), .int .i64 (1 + pick x3 255), .int .i64 (pick x4 65536), .bool false, .bool true, .int .i64 (8 * pick x6 400), .string ⟨#[]⟩]) (block_setCell (k := 7) (v := .int .i64 (8 * pick x6 400)) Hr.out) rfl); clear Hr; have Hr := Hr'; clear Hr'
      have HB' := Below.setCell HB (p := ⟨w.heap.size + 1, 7, none⟩) (by first | (simp; done) | (simp; omega)) (.int .i64 (8 * pick x6 400)); clear HB; have HB := HB'; clear HB'
      have Hp' := Lib.hid (block_set_other (a := ⟨w.heap.size + 1, 8, none⟩) (u := .string ⟨(payload s (max (pick x7 301 / 8 * 8) 8).toNat).toArray⟩) Hp.out (by first | (simp; done) | (simp; omega))); clear Hp; have Hp := Hp'; clear Hp'
      have Hr' := Lib.hid (cells_eq (b := #[.int .i64 (1 + pick x0 4294967294), .int .i64 (1 + pick x1 4294967295), .int .i64 (pick x2 256), .int .i64 (1 + pick x3 255), .int .i64 (pick x4 65536), .bool false, .bool true, .int .i64 (8 * pick x6 400), .string ⟨(payload s (max (pick x7 301 / 8 * 8) 8).toNat).toArray⟩]) (block_setCell (k := 8) (v := .string ⟨(payload s (max (pick x7 301 / 8 * 8) 8).toNat).toArray⟩) Hr.out) rfl); clear Hr; have Hr := Hr'; clear Hr'
      have HB' := Below.setCell HB (p := ⟨w.heap.size + 1, 8, none⟩) (by first | (simp; done) | (simp; omega)) (.string ⟨(payload s (max (pick x7 301 / 8 * 8) 8).toNat).toArray⟩); clear HB; have HB := HB'; clear HB'
      refine bodyPost_ret (v := .agg #[.int .i64 (1 + pick x0 4294967294), .int .i64 (1 + pick x1 4294967295), .int .i64 (pick x2 256), .int .i64 (1 + pick x3 255), .int .i64 (pick x4 65536), .bool false, .bool true, .int .i64 (8 * pick x6 400), .string ⟨(payload s (max (pick x7 301 / 8 * 8) 8).toNat).toArray⟩]) ?_ rfl ?_
      · exact res_cell1 Tryd.results5 Hr.out rfl Tryd.underlying26 rfl (by kernel_rfl)
      · refine ⟨⟨(1 + pick x0 4294967294), (1 + pick x1 4294967295), (pick x2 256), (1 + pick x3 255), (pick x4 65536), false, true, (8 * pick x6 400), ⟨(payload s (max (pick x7 301 / 8 * 8) 8).toNat).toArray⟩⟩, ?_, ?_, rfl, HB⟩
        · unfold Pk.ok VLen; simp only [sz, payload_length]; simp; omega
        · simp only [sz, payload_length]; omega
    · clear p5
      go_wp2_with fail
      refine (pick_any x6 400 _ (by omega) (by omega) (by omega) (by omega)).mono ?_
      rintro e w' ⟨rfl, rfl⟩
      go_wp2_with fail
      have Hp := Lib.hid (alloc_new' ((w.alloc (.cells #[.int .i64 x0, .int .i64 x1, .int .i64 x2, .int .i64 x3, .int .i64 x4, .int .i64 x5, .int .i64 x6, .int .i64 x7, .string s] 23)).alloc (.cells #[.int .i64 0, .int .i64 0, .int .i64 0, .int .i64 0, .int .i64 0, .bool false, .bool false, .int .i64 0, .string ⟨#[]⟩] 26)) (.cells #[.int .i64 (1 + pick x0 4294967294), .int .i64 (1 + pick x1 4294967295), .int .i64 (pick x2 256), .int .i64 (1 + pick x3 255), .int .i64 (pick x4 65536), .bool false, .bool false, .int .i64 (8 * pick x6 400), .string ⟨#[]⟩] 26) (w.heap.size + 1 + 1) (by simp))
      have Hx' := Lib.hid (block_alloc Hx.out (.cells #[.int .i64 (1 + pick x0 4294967294), .int .i64 (1 + pick x1 4294967295), .int .i64 (pick x2 256), .int .i64 (1 + pick x3 255), .int .i64 (pick x4 65536), .bool false, .bool false, .int .i64 (8 * pick x6 400), .string ⟨#[]⟩] 26)); clear Hx; have Hx := Hx'; clear Hx'
      have Hr' := Lib.hid (block_alloc Hr.out (.cells #[.int .i64 (1 + pick x0 4294967294), .int .i64 (1 + pick x1 4294967295), .int .i64 (pick x2 256), .int .i64 (1 + pick x3 255), .int .i64 (pick x4 65536), .bool false, .bool false, .int .i64 (8 * pick x6 400), .string ⟨#[]⟩] 26)); clear Hr; have Hr := Hr'; clear Hr'
      have HB' := below_alloc (o := .cells #[.int .i64 (1 + pick x0 4294967294), .int .i64 (1 + pick x1 4294967295), .int .i64 (pick x2 256), .int .i64 (1 + pick x3 255), .int .i64 (pick x4 65536), .bool false, .bool false, .int .i64 (8 * pick x6 400), .string ⟨#[]⟩] 26) HB; clear HB; have HB := HB'; clear HB'
      clear qx5 zx5 qx6 zx6 qx7 zx7 qx8 zx8
      refine (payload_any s (max (pick x7 301) 1) _ (by omega) (by omega) hs).mono ?_
      rintro e w1 ⟨rfl, hb⟩
      have hb := below_undrew hb
      have Hx' := Lib.hid (bblock hb Hx.out); clear Hx; have Hx := Hx'; clear Hx'
      have Hr' := Lib.hid (bblock hb Hr.out); clear Hr; have Hr := Hr'; clear Hr'
      have Hp' := Lib.hid (bblock hb Hp.out); clear Hp; have Hp := Hp'; clear Hp'
      have HB' := below_call HB hb; clear HB hb; have HB := HB'; clear HB'; have hz1 := HB.size
      have lt_x_1 := blk_lt Hx.out
      have lt_r_1 := blk_lt Hr.out
      have lt_p_1 := blk_lt Hp.out
      clear Hx
      have Sp := cells9 Hp.out
      obtain ⟨⟨qp0, qp1, qp2, qp3, qp4, qp5, qp6, qp7, qp8⟩, zp0, zp1, zp2, zp3, zp4, zp5, zp6, zp7, zp8⟩ := Sp
      have lt_p := blk_lt Hp.out
      have Sr := cells9 Hr.out
      obtain ⟨⟨qr0, qr1, qr2, qr3, qr4, qr5, qr6, qr7, qr8⟩, zr0, zr1, zr2, zr3, zr4, zr5, zr6, zr7, zr8⟩ := Sr
      have lt_r := blk_lt Hr.out
      go_wp2_with fail
      clear qp0 zp0 qp1 zp1 qp2 zp2 qp3 zp3 qp4 zp4 qp5 zp5 qp6 zp6 qp7 zp7 qp8 zp8 qr0 zr0 qr1 zr1 qr2 zr2 qr3 zr3 qr4 zr4 qr5 zr5 qr6 zr6 qr7 zr7 qr8 zr8
      have Hr' := Lib.hid (block_set_other (a := ⟨w.heap.size + 1 + 1, 8, none⟩) (u := .string ⟨(payload s (max (pick x7 301) 1).toNat).toArray⟩) Hr.out (by first | (simp; done) | (simp; omega))); clear Hr; have Hr := Hr'; clear Hr'
      have Hp' := Lib.hid (cells_eq (b := #[.int .i64 (1 + pick x0 4294967294), .int .i64 (1 + pick x1 4294967295), .int .i64 (pick x2 256), .int .i64 (1 + pick x3 255), .int .i64 (pick x4 65536), .bool false, .bool false, .int .i64 (8 * pick x6 400), .string ⟨(payload s (max (pick x7 301) 1).toNat).toArray⟩]) (block_setCell (k := 8) (v := .string ⟨(payload s (max (pick x7 301) 1).toNat).toArray⟩) Hp.out) rfl); clear Hp; have Hp := Hp'; clear Hp'
      have HB' := Below.setCell HB (p := ⟨w.heap.size + 1 + 1, 8, none⟩) (by first | (simp; done) | (simp; omega)) (.string ⟨(payload s (max (pick x7 301) 1).toNat).toArray⟩); clear HB; have HB := HB'; clear HB'
      have Hp' := Lib.hid (block_set_other (a := ⟨w.heap.size + 1, 0, none⟩) (u := .int .i64 (1 + pick x0 4294967294)) Hp.out (by first | (simp; done) | (simp; omega))); clear Hp; have Hp := Hp'; clear Hp'
      have Hr' := Lib.hid (cells_eq (b := #[.int .i64 (1 + pick x0 4294967294), .int .i64 0, .int .i64 0, .int .i64 0, .int .i64 0, .bool false, .bool false, .int .i64 0, .string ⟨#[]⟩]) (block_setCell (k := 0) (v := .int .i64 (1 + pick x0 4294967294)) Hr.out) rfl); clear Hr; have Hr := Hr'; clear Hr'
      have HB' := Below.setCell HB (p := ⟨w.heap.size + 1, 0, none⟩) (by first | (simp; done) | (simp; omega)) (.int .i64 (1 + pick x0 4294967294)); clear HB; have HB := HB'; clear HB'
      have Hp' := Lib.hid (block_set_other (a := ⟨w.heap.size + 1, 1, none⟩) (u := .int .i64 (1 + pick x1 4294967295)) Hp.out (by first | (simp; done) | (simp; omega))); clear Hp; have Hp := Hp'; clear Hp'
      have Hr' := Lib.hid (cells_eq (b := #[.int .i64 (1 + pick x0 4294967294), .int .i64 (1 + pick x1 4294967295), .int .i64 0, .int .i64 0, .int .i64 0, .bool false, .bool false, .int .i64 0, .string ⟨#[]⟩]) (block_setCell (k := 1) (v := .int .i64 (1 + pick x1 4294967295)) Hr.out) rfl); clear Hr; have Hr := Hr'; clear Hr'
      have HB' := Below.setCell HB (p := ⟨w.heap.size + 1, 1, none⟩) (by first | (simp; done) | (simp; omega)) (.int .i64 (1 + pick x1 4294967295)); clear HB; have HB := HB'; clear HB'
      have Hp' := Lib.hid (block_set_other (a := ⟨w.heap.size + 1, 2, none⟩) (u := .int .i64 (pick x2 256)) Hp.out (by first | (simp; done) | (simp; omega))); clear Hp; have Hp := Hp'; clear Hp'
      have Hr' := Lib.hid (cells_eq (b := #[.int .i64 (1 + pick x0 4294967294), .int .i64 (1 + pick x1 4294967295), .int .i64 (pick x2 256), .int .i64 0, .int .i64 0, .bool false, .bool false, .int .i64 0, .string ⟨#[]⟩]) (block_setCell (k := 2) (v := .int .i64 (pick x2 256)) Hr.out) rfl); clear Hr; have Hr := Hr'; clear Hr'
      have HB' := Below.setCell HB (p := ⟨w.heap.size + 1, 2, none⟩) (by first | (simp; done) | (simp; omega)) (.int .i64 (pick x2 256)); clear HB; have HB := HB'; clear HB'
      have Hp' := Lib.hid (block_set_other (a := ⟨w.heap.size + 1, 3, none⟩) (u := .int .i64 (1 + pick x3 255)) Hp.out (by first | (simp; done) | (simp; omega))); clear Hp; have Hp := Hp'; clear Hp'
      have Hr' := Lib.hid (cells_eq (b := #[.int .i64 (1 + pick x0 4294967294), .int .i64 (1 + pick x1 4294967295), .int .i64 (pick x2 256), .int .i64 (1 + pick x3 255), .int .i64 0, .bool false, .bool false, .int .i64 0, .string ⟨#[]⟩]) (block_setCell (k := 3) (v := .int .i64 (1 + pick x3 255)) Hr.out) rfl); clear Hr; have Hr := Hr'; clear Hr'
      have HB' := Below.setCell HB (p := ⟨w.heap.size + 1, 3, none⟩) (by first | (simp; done) | (simp; omega)) (.int .i64 (1 + pick x3 255)); clear HB; have HB := HB'; clear HB'
      have Hp' := Lib.hid (block_set_other (a := ⟨w.heap.size + 1, 4, none⟩) (u := .int .i64 (pick x4 65536)) Hp.out (by first | (simp; done) | (simp; omega))); clear Hp; have Hp := Hp'; clear Hp'
      have Hr' := Lib.hid (cells_eq (b := #[.int .i64 (1 + pick x0 4294967294), .int .i64 (1 + pick x1 4294967295), .int .i64 (pick x2 256), .int .i64 (1 + pick x3 255), .int .i64 (pick x4 65536), .bool false, .bool false, .int .i64 0, .string ⟨#[]⟩]) (block_setCell (k := 4) (v := .int .i64 (pick x4 65536)) Hr.out) rfl); clear Hr; have Hr := Hr'; clear Hr'
      have HB' := Below.setCell HB (p := ⟨w.heap.size + 1, 4, none⟩) (by first | (simp; done) | (simp; omega)) (.int .i64 (pick x4 65536)); clear HB; have HB := HB'; clear HB'
      have Hp' := Lib.hid (block_set_other (a := ⟨w.heap.size + 1, 5, none⟩) (u := .bool false) Hp.out (by first | (simp; done) | (simp; omega))); clear Hp; have Hp := Hp'; clear Hp'
      have Hr' := Lib.hid (cells_eq (b := #[.int .i64 (1 + pick x0 4294967294), .int .i64 (1 + pick x1 4294967295), .int .i64 (pick x2 256), .int .i64 (1 + pick x3 255), .int .i64 (pick x4 65536), .bool false, .bool false, .int .i64 0, .string ⟨#[]⟩]) (block_setCell (k := 5) (v := .bool false) Hr.out) rfl); clear Hr; have Hr := Hr'; clear Hr'
      have HB' := Below.setCell HB (p := ⟨w.heap.size + 1, 5, none⟩) (by first | (simp; done) | (simp; omega)) (.bool false); clear HB; have HB := HB'; clear HB'
      have Hp' := Lib.hid (block_set_other (a := ⟨w.heap.size + 1, 6, none⟩) (u := .bool false) Hp.out (by first | (simp; done) | (simp; omega))); clear Hp; have Hp := Hp'; clear Hp'
      have Hr' := Lib.hid (cells_eq (b := #[.int .i64 (1 + pick x0 4294967294), .int .i64 (1 + pick x1 4294967295), .int .i64 (pick x2 256), .int .i64 (1 + pick x3 255), .int .i64 (pick x4 65536), .bool false, .bool false, .int .i64 0, .string ⟨#[]⟩]) (block_setCell (k := 6) (v := .bool false) Hr.out) rfl); clear Hr; have Hr := Hr'; clear Hr'
      have HB' := Below.setCell HB (p := ⟨w.heap.size + 1, 6, none⟩) (by first | (simp; done) | (simp; omega)) (.bool false); clear HB; have HB := HB'; clear HB'
      have Hp' := Lib.hid (block_set_other (a := ⟨w.heap.size + 1, 7, none⟩) (u := .int .i64 (8 * pick x6 400)) Hp.out (by first | (simp; done) | (simp; omega))); clear Hp; have Hp := Hp'; clear Hp'
      have Hr' := Lib.hid (cells_eq (b := #[.int .i64 (1 + pick x0 4294967294), .int .i64 (1 + pick x1 4294967295), .int .i64 (pick x2 256), .int .i64 (1 + pick x3 255), .int .i64 (pick x4 65536), .bool false, .bool false, .int .i64 (8 * pick x6 400), .string ⟨#[]⟩]) (block_setCell (k := 7) (v := .int .i64 (8 * pick x6 400)) Hr.out) rfl); clear Hr; have Hr := Hr'; clear Hr'
      have HB' := Below.setCell HB (p := ⟨w.heap.size + 1, 7, none⟩) (by first | (simp; done) | (simp; omega)) (.int .i64 (8 * pick x6 400)); clear HB; have HB := HB'; clear HB'
      have Hp' := Lib.hid (block_set_other (a := ⟨w.heap.size + 1, 8, none⟩) (u := .string ⟨(payload s (max (pick x7 301) 1).toNat).toArray⟩) Hp.out (by first | (simp; done) | (simp; omega))); clear Hp; have Hp := Hp'; clear Hp'
      have Hr' := Lib.hid (cells_eq (b := #[.int .i64 (1 + pick x0 4294967294), .int .i64 (1 + pick x1 4294967295), .int .i64 (pick x2 256), .int .i64 (1 + pick x3 255), .int .i64 (pick x4 65536), .bool false, .bool false, .int .i64 (8 * pick x6 400), .string ⟨(payload s (max (pick x7 301) 1).toNat).toArray⟩]) (block_setCell (k := 8) (v := .string ⟨(payload s (max (pick x7 301) 1).toNat).toArray⟩) Hr.out) rfl); clear Hr; have Hr := Hr'; clear Hr'
      have HB' := Below.setCell HB (p := ⟨w.heap.size + 1, 8, none⟩) (by first | (simp; done) | (simp; omega)) (.string ⟨(payload s (max (pick x7 301) 1).toNat).toArray⟩); clear HB; have HB := HB'; clear HB'
      refine bodyPost_ret (v := .agg #[.int .i64 (1 + pick x0 4294967294), .int .i64 (1 + pick x1 4294967295), .int .i64 (pick x2 256), .int .i64 (1 + pick x3 255), .int .i64 (pick x4 65536), .bool false, .bool false, .int .i64 (8 * pick x6 400), .string ⟨(payload s (max (pick x7 301) 1).toNat).toArray⟩]) ?_ rfl ?_
      · exact res_cell1 Tryd.results5 Hr.out rfl Tryd.underlying26 rfl (by kernel_rfl)
      · refine ⟨⟨(1 + pick x0 4294967294), (1 + pick x1 4294967295), (pick x2 256), (1 + pick x3 255), (pick x4 65536), false, false, (8 * pick x6 400), ⟨(payload s (max (pick x7 301) 1).toNat).toArray⟩⟩, ?_, ?_, rfl, HB⟩
        · unfold Pk.ok VLen; simp only [sz, payload_length]; simp; omega
        · simp only [sz, payload_length]; omega
end Go.Proofs.YtpiohahfdekmhaaDoor.Ip
