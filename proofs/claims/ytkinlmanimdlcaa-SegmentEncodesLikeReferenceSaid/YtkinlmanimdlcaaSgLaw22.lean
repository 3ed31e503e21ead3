/-
  The walk of the law SegmentEncodesLikeReference of chapter 11.
-/
import Derived.Test.YtkinlmanimdlcaaSgArg
import Derived.Test.YtkinlmanimdlcaaSgEx
import Derived.Test.YtkinlmanimdlcaaSgRl
import Derived.Deep.RegionHeld3
import Derived.Deep.QuietTactic
namespace Go.Proofs.Ytkinlmanimdlcaa.Sg
open Go.RowKit Go.Proofs.Ytkinlmanimdlcaa.Wire

/-- cut, with the cells laid open -/
def CutL (w : World) (e : Ending) (w' : World) : Prop := ∃ (x : Seg) (A : Option Addr) (c : Nat), x.raw ∧ e = .returned (.agg #[.int .i64 x.fp, .int .i64 x.tp, .int .i64 x.sq, .int .i64 x.ack, .bool x.syn, .bool x.fin, .bool x.rst, .bool x.ha, .int .i64 x.win, .int .i64 x.mss, .bool x.sacks, .slice A x.bl.length c, .string x.s]) ∧ Bks w' A x.bl.length x.bl ∧ Below w.heap.size w w'
theorem cutL_any (fp tp sq ack : Int) (syn fin rst ha : Bool) (win mss : Int) (sacks : Bool) (A : Option Addr) (n c : Nat) (bl : List (Int × Int)) (s : ByteArray) (w : World) (hfp : In64 fp) (htp : In64 tp) (hsq : In64 sq) (hack : In64 ack) (hwin : In64 win) (hmss : In64 mss) (hA : ArgB w A n c bl) :
    Calls Try.prog 11 #[.agg #[.int .i64 fp, .int .i64 tp, .int .i64 sq, .int .i64 ack, .bool syn, .bool fin, .bool rst, .bool ha, .int .i64 win, .int .i64 mss, .bool sacks, .slice A n c, .string s]] w (CutL w) := cut_any fp tp sq ack syn fin rst ha win mss sacks A n c bl s w hfp htp hsq hack hwin hmss hA
theorem ok_size {x : Seg} (h : x.ok) : x.s.size ≤ 1100 := by have := h.2.2.2; unfold VS at this; split at this <;> omega
theorem seg52 {W : World} {B : Nat} (u r o : Seg) (yw ym : Int) (Au Ar Ao : Option Addr) (cu cr co : Nat) (h : W.heap[B]? = some (.cells #[.int .i64 u.fp, .int .i64 u.tp, .int .i64 u.sq, .int .i64 u.ack, .bool u.syn, .bool u.fin, .bool u.rst, .bool u.ha, .int .i64 u.win, .int .i64 u.mss, .bool u.sacks, .slice Au u.bl.length cu, .string u.s, .int .i64 r.fp, .int .i64 r.tp, .int .i64 r.sq, .int .i64 r.ack, .bool r.syn, .bool r.fin, .bool r.rst, .bool r.ha, .int .i64 r.win, .int .i64 r.mss, .bool r.sacks, .slice Ar r.bl.length cr, .string r.s, .int .i64 r.fp, .int .i64 r.tp, .int .i64 r.sq, .int .i64 r.ack, .bool r.syn, .bool r.fin, .bool r.rst, .bool r.ha, .int .i64 yw, .int .i64 ym, .bool r.sacks, .slice Ar r.bl.length cr, .string r.s, .int .i64 o.fp, .int .i64 o.tp, .int .i64 o.sq, .int .i64 o.ack, .bool o.syn, .bool o.fin, .bool o.rst, .bool o.ha, .int .i64 o.win, .int .i64 o.mss, .bool o.sacks, .slice Ao o.bl.length co, .string o.s] 24 (0, 0))) (hu : u.bl.length ≤ 6 ∧ u.s.size ≤ 1100 ∧ Bks W Au u.bl.length u.bl) (hr : r.bl.length ≤ 6 ∧ r.s.size ≤ 1100 ∧ Bks W Ar r.bl.length r.bl) (ho : o.bl.length ≤ 6 ∧ o.s.size ≤ 1100 ∧ Bks W Ao o.bl.length o.bl) (k : Nat) (hk : k < 4) :
    ∃ (y : Seg) (A : Option Addr) (c : Nat), (y.bl.length ≤ 6 ∧ y.s.size ≤ 1100 ∧ Bks W A y.bl.length y.bl) ∧ W.cell? ⟨B, k * 13, none⟩ = some (.int .i64 y.fp) ∧ W.cell? ⟨B, k * 13 + 1, none⟩ = some (.int .i64 y.tp) ∧ W.cell? ⟨B, k * 13 + 2, none⟩ = some (.int .i64 y.sq) ∧ W.cell? ⟨B, k * 13 + 3, none⟩ = some (.int .i64 y.ack) ∧ W.cell? ⟨B, k * 13 + 4, none⟩ = some (.bool y.syn) ∧ W.cell? ⟨B, k * 13 + 5, none⟩ = some (.bool y.fin) ∧ W.cell? ⟨B, k * 13 + 6, none⟩ = some (.bool y.rst) ∧ W.cell? ⟨B, k * 13 + 7, none⟩ = some (.bool y.ha) ∧ W.cell? ⟨B, k * 13 + 8, none⟩ = some (.int .i64 y.win) ∧ W.cell? ⟨B, k * 13 + 9, none⟩ = some (.int .i64 y.mss) ∧ W.cell? ⟨B, k * 13 + 10, none⟩ = some (.bool y.sacks) ∧ W.cell? ⟨B, k * 13 + 11, none⟩ = some (.slice A y.bl.length c) ∧ W.cell? ⟨B, k * 13 + 12, none⟩ = some (.string y.s) := by
  match k, hk with
  | 0, _ => exact ⟨u, Au, cu, hu, (cell_of_block h rfl).1, (cell_of_block h rfl).1, (cell_of_block h rfl).1, (cell_of_block h rfl).1, (cell_of_block h rfl).1, (cell_of_block h rfl).1, (cell_of_block h rfl).1, (cell_of_block h rfl).1, (cell_of_block h rfl).1, (cell_of_block h rfl).1, (cell_of_block h rfl).1, (cell_of_block h rfl).1, (cell_of_block h rfl).1⟩
  | 1, _ => exact ⟨r, Ar, cr, hr, (cell_of_block h rfl).1, (cell_of_block h rfl).1, (cell_of_block h rfl).1, (cell_of_block h rfl).1, (cell_of_block h rfl).1, (cell_of_block h rfl).1, (cell_of_block h rfl).1, (cell_of_block h rfl).1, (cell_of_block h rfl).1, (cell_of_block h rfl).1, (cell_of_block h rfl).1, (cell_of_block h rfl).1, (cell_of_block h rfl).1⟩
  | 2, _ => exact ⟨{ r with win := yw, mss := ym }, Ar, cr, hr, (cell_of_block h rfl).1, (cell_of_block h rfl).1, (cell_of_block h rfl).1, (cell_of_block h rfl).1, (cell_of_block h rfl).1, (cell_of_block h rfl).1, (cell_of_block h rfl).1, (cell_of_block h rfl).1, (cell_of_block h rfl).1, (cell_of_block h rfl).1, (cell_of_block h rfl).1, (cell_of_block h rfl).1, (cell_of_block h rfl).1⟩
  | 3, _ => exact ⟨o, Ao, co, ho, (cell_of_block h rfl).1, (cell_of_block h rfl).1, (cell_of_block h rfl).1, (cell_of_block h rfl).1, (cell_of_block h rfl).1, (cell_of_block h rfl).1, (cell_of_block h rfl).1, (cell_of_block h rfl).1, (cell_of_block h rfl).1, (cell_of_block h rfl).1, (cell_of_block h rfl).1, (cell_of_block h rfl).1, (cell_of_block h rfl).1⟩
set_option maxRecDepth 100000 in
set_option maxHeartbeats 4000000 in
theorem law22_any (xfp xtp xsq xack : Int) (xsyn xfin xrst xha : Bool) (xwin xmss : Int) (xsacks : Bool) (xA : Option Addr) (xn xc : Nat) (xbl : List (Int × Int)) (xs : ByteArray) (kind : Int) (yfp ytp ysq yack : Int) (ysyn yfin yrst yha : Bool) (ywin ymss : Int) (ysacks : Bool) (yA : Option Addr) (yn yc : Nat) (ybl : List (Int × Int)) (ys : ByteArray) (from_ to_ : Int) (w : World) (hx : In64 xfp ∧ In64 xtp ∧ In64 xsq ∧ In64 xack ∧ In64 xwin ∧ In64 xmss) (hAx : ArgB w xA xn xc xbl) (hkind : In64 kind) (hy : In64 yfp ∧ In64 ytp ∧ In64 ysq ∧ In64 yack ∧ In64 ywin ∧ In64 ymss) (hAy : ArgB w yA yn yc ybl) (hf : In64 from_) (ht : In64 to_) :
    Calls Try.prog 3 #[.agg #[.int .i64 xfp, .int .i64 xtp, .int .i64 xsq, .int .i64 xack, .bool xsyn, .bool xfin, .bool xrst, .bool xha, .int .i64 xwin, .int .i64 xmss, .bool xsacks, .slice xA xn xc, .string xs], .int .i64 kind, .agg #[.int .i64 yfp, .int .i64 ytp, .int .i64 ysq, .int .i64 yack, .bool ysyn, .bool yfin, .bool yrst, .bool yha, .int .i64 ywin, .int .i64 ymss, .bool ysacks, .slice yA yn yc, .string ys], .int .i64 from_, .int .i64 to_] w fun e w' => e = .returned (.bool true) ∧ Below w.heap.size w w' := by
  have HCx := Lib.hid fun W (hA : ArgB W xA xn xc xbl) => cutL_any xfp xtp xsq xack xsyn xfin xrst xha xwin xmss xsacks xA xn xc xbl xs W hx.1 hx.2.1 hx.2.2.1 hx.2.2.2.1 hx.2.2.2.2.1 hx.2.2.2.2.2 hA
  have HCy := Lib.hid fun W (hA : ArgB W yA yn yc ybl) => cutL_any yfp ytp ysq yack ysyn yfin yrst yha ywin ymss ysacks yA yn yc ybl ys W hy.1 hy.2.1 hy.2.2.1 hy.2.2.2.1 hy.2.2.2.2.1 hy.2.2.2.2.2 hA
  have HS := Lib.hid fun x A c W (hx : Seg.raw x) hb => segOf_lit x A c kind W hx hkind hb
  have hp := pick_lt from_ 4294967296 (by omega)
  have hq := pick_lt to_ 4294967296 (by omega)
  have HP := Lib.hid fun W => pick_any from_ 4294967296 W hf.1 hf.2 (by omega) (by omega)
  have HQ := Lib.hid fun W => pick_any to_ 4294967296 W ht.1 ht.2 (by omega) (by omega)
  have hyw := hy.2.2.2.2.1; have hym := hy.2.2.2.2.2
  generalize pick from_ 4294967296 = p at *
  generalize pick to_ 4294967296 = q at *
  clear hx hy hkind
  have HAx := Lib.hid hAx; have HAy := Lib.hid hAy; clear hAx hAy
  have HB := Below.refl w.heap.size w
  have Hx := Lib.hid (alloc_new' w (.cells #[.int .i64 xfp, .int .i64 xtp, .int .i64 xsq, .int .i64 xack, .bool xsyn, .bool xfin, .bool xrst, .bool xha, .int .i64 xwin, .int .i64 xmss, .bool xsacks, .slice xA xn xc, .string xs] 24) (w.heap.size) (by simp))
  have HB' := below_alloc (o := .cells #[.int .i64 xfp, .int .i64 xtp, .int .i64 xsq, .int .i64 xack, .bool xsyn, .bool xfin, .bool xrst, .bool xha, .int .i64 xwin, .int .i64 xmss, .bool xsacks, .slice xA xn xc, .string xs] 24) HB; clear HB; have HB := HB'; clear HB'
  have Hy := Lib.hid (alloc_new' (w.alloc (.cells #[.int .i64 xfp, .int .i64 xtp, .int .i64 xsq, .int .i64 xack, .bool xsyn, .bool xfin, .bool xrst, .bool xha, .int .i64 xwin, .int .i64 xmss, .bool xsacks, .slice xA xn xc, .string xs] 24)) (.cells #[.int .i64 yfp, .int .i64 ytp, .int .i64 ysq, .int .i64 yack, .bool ysyn, .bool yfin, .bool yrst, .bool yha, .int .i64 ywin, .int .i64 ymss, .bool ysacks, .slice yA yn yc, .string ys] 24) (w.heap.size + 1) (by simp))
  have Hx' := Lib.hid (block_alloc Hx.out (.cells #[.int .i64 yfp, .int .i64 ytp, .int .i64 ysq, .int .i64 yack, .bool ysyn, .bool yfin, .bool yrst, .bool yha, .int .i64 ywin, .int .i64 ymss, .bool ysacks, .slice yA yn yc, .string ys] 24)); clear Hx; have Hx := Hx'; clear Hx'
  have HB' := below_alloc (o := .cells #[.int .i64 yfp, .int .i64 ytp, .int .i64 ysq, .int .i64 yack, .bool ysyn, .bool yfin, .bool yrst, .bool yha, .int .i64 ywin, .int .i64 ymss, .bool ysacks, .slice yA yn yc, .string ys] 24) HB; clear HB; have HB := HB'; clear HB'
  go_enter Try.func3, Try.ntmps3
  go_wp2_with fail
  refine (examples_any _).mono ?_
  rintro e w1 ⟨rfl, hb⟩
  have Hx' := Lib.hid (bblock hb Hx.out); clear Hx; have Hx := Hx'; clear Hx'
  have Hy' := Lib.hid (bblock hb Hy.out); clear Hy; have Hy := Hy'; clear Hy'
  have HB' := below_call HB hb; clear HB hb; have HB := HB'; clear HB'; have hz1 := HB.size
  have lt_x_1 := blk_lt Hx.out
  have lt_y_1 := blk_lt Hy.out
  have Sx := cells13 Hx.out
  obtain ⟨⟨qx0, qx1, qx2, qx3, qx4, qx5, qx6, qx7, qx8, qx9, qx10, qx11, qx12⟩, zx0, zx1, zx2, zx3, zx4, zx5, zx6, zx7, zx8, zx9, zx10, zx11, zx12⟩ := Sx
  have lt_x := blk_lt Hx.out
  go_wp2_with fail
  refine (HCx.out _ (HAx.out.below HB)).mono ?_
  rintro e w2 ⟨u, Au, cu, hu, rfl, hubk, hb⟩
  clear qx0 zx0 qx1 zx1 qx2 zx2 qx3 zx3 qx4 zx4 qx5 zx5 qx6 zx6 qx7 zx7 qx8 zx8 qx9 zx9 qx10 zx10 qx11 zx11 qx12 zx12
  have Hx' := Lib.hid (bblock hb Hx.out); clear Hx; have Hx := Hx'; clear Hx'
  have Hy' := Lib.hid (bblock hb Hy.out); clear Hy; have Hy := Hy'; clear Hy'
  have HB' := below_call HB hb; clear HB hb; have HB := HB'; clear HB'; have hz2 := HB.size
  have lt_x_2 := blk_lt Hx.out
  have lt_y_2 := blk_lt Hy.out
  have Hu0 := Lib.hid hu; have Hubk := Lib.hid hubk; clear hu hubk
  have Hu := Lib.hid (alloc_new' w2 (.cells #[.int .i64 u.fp, .int .i64 u.tp, .int .i64 u.sq, .int .i64 u.ack, .bool u.syn, .bool u.fin, .bool u.rst, .bool u.ha, .int .i64 u.win, .int .i64 u.mss, .bool u.sacks, .slice Au u.bl.length cu, .string u.s] 24) (w2.heap.size) (by simp))
  have Hx' := Lib.hid (block_alloc Hx.out (.cells #[.int .i64 u.fp, .int .i64 u.tp, .int .i64 u.sq, .int .i64 u.ack, .bool u.syn, .bool u.fin, .bool u.rst, .bool u.ha, .int .i64 u.win, .int .i64 u.mss, .bool u.sacks, .slice Au u.bl.length cu, .string u.s] 24)); clear Hx; have Hx := Hx'; clear Hx'
  have Hy' := Lib.hid (block_alloc Hy.out (.cells #[.int .i64 u.fp, .int .i64 u.tp, .int .i64 u.sq, .int .i64 u.ack, .bool u.syn, .bool u.fin, .bool u.rst, .bool u.ha, .int .i64 u.win, .int .i64 u.mss, .bool u.sacks, .slice Au u.bl.length cu, .string u.s] 24)); clear Hy; have Hy := Hy'; clear Hy'
  have Hubk' := Lib.hid (Hubk.out.alloc (.cells #[.int .i64 u.fp, .int .i64 u.tp, .int .i64 u.sq, .int .i64 u.ack, .bool u.syn, .bool u.fin, .bool u.rst, .bool u.ha, .int .i64 u.win, .int .i64 u.mss, .bool u.sacks, .slice Au u.bl.length cu, .string u.s] 24)); clear Hubk; have Hubk := Hubk'; clear Hubk'
  have HB' := below_alloc (o := .cells #[.int .i64 u.fp, .int .i64 u.tp, .int .i64 u.sq, .int .i64 u.ack, .bool u.syn, .bool u.fin, .bool u.rst, .bool u.ha, .int .i64 u.win, .int .i64 u.mss, .bool u.sacks, .slice Au u.bl.length cu, .string u.s] 24) HB; clear HB; have HB := HB'; clear HB'
  have Sy := cells13 Hy.out
  obtain ⟨⟨qy0, qy1, qy2, qy3, qy4, qy5, qy6, qy7, qy8, qy9, qy10, qy11, qy12⟩, zy0, zy1, zy2, zy3, zy4, zy5, zy6, zy7, zy8, zy9, zy10, zy11, zy12⟩ := Sy
  have lt_y := blk_lt Hy.out
  go_wp2_with fail
  refine (HCy.out _ (HAy.out.below HB)).mono ?_
  rintro e w3 ⟨o, Ao, co, ho, rfl, hobk, hb⟩
  clear qy0 zy0 qy1 zy1 qy2 zy2 qy3 zy3 qy4 zy4 qy5 zy5 qy6 zy6 qy7 zy7 qy8 zy8 qy9 zy9 qy10 zy10 qy11 zy11 qy12 zy12
  have Hx' := Lib.hid (bblock hb Hx.out); clear Hx; have Hx := Hx'; clear Hx'
  have Hy' := Lib.hid (bblock hb Hy.out); clear Hy; have Hy := Hy'; clear Hy'
  have Hu' := Lib.hid (bblock hb Hu.out); clear Hu; have Hu := Hu'; clear Hu'
  have Hubk' := Lib.hid (Hubk.out.below hb); clear Hubk; have Hubk := Hubk'; clear Hubk'
  have HB' := below_call HB hb; clear HB hb; have HB := HB'; clear HB'; have hz3 := HB.size
  have lt_x_3 := blk_lt Hx.out
  have lt_y_3 := blk_lt Hy.out
  have lt_u_3 := blk_lt Hu.out
  have Ho0 := Lib.hid ho; have Hobk := Lib.hid hobk; clear ho hobk
  have Ho := Lib.hid (alloc_new' w3 (.cells #[.int .i64 o.fp, .int .i64 o.tp, .int .i64 o.sq, .int .i64 o.ack, .bool o.syn, .bool o.fin, .bool o.rst, .bool o.ha, .int .i64 o.win, .int .i64 o.mss, .bool o.sacks, .slice Ao o.bl.length co, .string o.s] 24) (w3.heap.size) (by simp))
  have Hx' := Lib.hid (block_alloc Hx.out (.cells #[.int .i64 o.fp, .int .i64 o.tp, .int .i64 o.sq, .int .i64 o.ack, .bool o.syn, .bool o.fin, .bool o.rst, .bool o.ha, .int .i64 o.win, .int .i64 o.mss, .bool o.sacks, .slice Ao o.bl.length co, .string o.s] 24)); clear Hx; have Hx := Hx'; clear Hx'
  have Hy' := Lib.hid (block_alloc Hy.out (.cells #[.int .i64 o.fp, .int .i64 o.tp, .int .i64 o.sq, .int .i64 o.ack, .bool o.syn, .bool o.fin, .bool o.rst, .bool o.ha, .int .i64 o.win, .int .i64 o.mss, .bool o.sacks, .slice Ao o.bl.length co, .string o.s] 24)); clear Hy; have Hy := Hy'; clear Hy'
  have Hu' := Lib.hid (block_alloc Hu.out (.cells #[.int .i64 o.fp, .int .i64 o.tp, .int .i64 o.sq, .int .i64 o.ack, .bool o.syn, .bool o.fin, .bool o.rst, .bool o.ha, .int .i64 o.win, .int .i64 o.mss, .bool o.sacks, .slice Ao o.bl.length co, .string o.s] 24)); clear Hu; have Hu := Hu'; clear Hu'
  have Hubk' := Lib.hid (Hubk.out.alloc (.cells #[.int .i64 o.fp, .int .i64 o.tp, .int .i64 o.sq, .int .i64 o.ack, .bool o.syn, .bool o.fin, .bool o.rst, .bool o.ha, .int .i64 o.win, .int .i64 o.mss, .bool o.sacks, .slice Ao o.bl.length co, .string o.s] 24)); clear Hubk; have Hubk := Hubk'; clear Hubk'
  have Hobk' := Lib.hid (Hobk.out.alloc (.cells #[.int .i64 o.fp, .int .i64 o.tp, .int .i64 o.sq, .int .i64 o.ack, .bool o.syn, .bool o.fin, .bool o.rst, .bool o.ha, .int .i64 o.win, .int .i64 o.mss, .bool o.sacks, .slice Ao o.bl.length co, .string o.s] 24)); clear Hobk; have Hobk := Hobk'; clear Hobk'
  have HB' := below_alloc (o := .cells #[.int .i64 o.fp, .int .i64 o.tp, .int .i64 o.sq, .int .i64 o.ack, .bool o.syn, .bool o.fin, .bool o.rst, .bool o.ha, .int .i64 o.win, .int .i64 o.mss, .bool o.sacks, .slice Ao o.bl.length co, .string o.s] 24) HB; clear HB; have HB := HB'; clear HB'
  have Su := cells13 Hu.out
  obtain ⟨⟨qu0, qu1, qu2, qu3, qu4, qu5, qu6, qu7, qu8, qu9, qu10, qu11, qu12⟩, zu0, zu1, zu2, zu3, zu4, zu5, zu6, zu7, zu8, zu9, zu10, zu11, zu12⟩ := Su
  have lt_u := blk_lt Hu.out
  go_wp2_with fail
  refine (HS.out u Au cu _ Hu0.out Hubk.out).mono ?_
  rintro e w4 ⟨r, Ar, cr, hr, rfl, hrbk, hb⟩
  clear qu0 zu0 qu1 zu1 qu2 zu2 qu3 zu3 qu4 zu4 qu5 zu5 qu6 zu6 qu7 zu7 qu8 zu8 qu9 zu9 qu10 zu10 qu11 zu11 qu12 zu12
  have Hx' := Lib.hid (bblock hb Hx.out); clear Hx; have Hx := Hx'; clear Hx'
  have Hy' := Lib.hid (bblock hb Hy.out); clear Hy; have Hy := Hy'; clear Hy'
  have Hu' := Lib.hid (bblock hb Hu.out); clear Hu; have Hu := Hu'; clear Hu'
  have Ho' := Lib.hid (bblock hb Ho.out); clear Ho; have Ho := Ho'; clear Ho'
  have Hubk' := Lib.hid (Hubk.out.below hb); clear Hubk; have Hubk := Hubk'; clear Hubk'
  have Hobk' := Lib.hid (Hobk.out.below hb); clear Hobk; have Hobk := Hobk'; clear Hobk'
  have HB' := below_call HB hb; clear HB hb; have HB := HB'; clear HB'; have hz4 := HB.size
  have lt_x_4 := blk_lt Hx.out
  have lt_y_4 := blk_lt Hy.out
  have lt_u_4 := blk_lt Hu.out
  have lt_o_4 := blk_lt Ho.out
  have Hr0 := Lib.hid hr; have Hrbk := Lib.hid hrbk; clear hr hrbk
  have y4w := (cell_of_block (k := 8) Hy.out rfl).1; have y4m := (cell_of_block (k := 9) Hy.out rfl).1
  have y5w := cell_alloc' (.cells #[.int .i64 r.fp, .int .i64 r.tp, .int .i64 r.sq, .int .i64 r.ack, .bool r.syn, .bool r.fin, .bool r.rst, .bool r.ha, .int .i64 r.win, .int .i64 r.mss, .bool r.sacks, .slice Ar r.bl.length cr, .string r.s] 24) (cell_alloc' (.cells #[.int .i64 r.fp, .int .i64 r.tp, .int .i64 r.sq, .int .i64 r.ack, .bool r.syn, .bool r.fin, .bool r.rst, .bool r.ha, .int .i64 r.win, .int .i64 r.mss, .bool r.sacks, .slice Ar r.bl.length cr, .string r.s] 24) y4w); have y5m := cell_alloc' (.cells #[.int .i64 r.fp, .int .i64 r.tp, .int .i64 r.sq, .int .i64 r.ack, .bool r.syn, .bool r.fin, .bool r.rst, .bool r.ha, .int .i64 ywin, .int .i64 r.mss, .bool r.sacks, .slice Ar r.bl.length cr, .string r.s] 24) (cell_alloc' (.cells #[.int .i64 r.fp, .int .i64 r.tp, .int .i64 r.sq, .int .i64 r.ack, .bool r.syn, .bool r.fin, .bool r.rst, .bool r.ha, .int .i64 r.win, .int .i64 r.mss, .bool r.sacks, .slice Ar r.bl.length cr, .string r.s] 24) y4m)
  clear y4w y4m
  have Hr := Lib.hid (alloc_new' w4 (.cells #[.int .i64 r.fp, .int .i64 r.tp, .int .i64 r.sq, .int .i64 r.ack, .bool r.syn, .bool r.fin, .bool r.rst, .bool r.ha, .int .i64 r.win, .int .i64 r.mss, .bool r.sacks, .slice Ar r.bl.length cr, .string r.s] 24) (w4.heap.size) (by simp))
  have Hx' := Lib.hid (block_alloc Hx.out (.cells #[.int .i64 r.fp, .int .i64 r.tp, .int .i64 r.sq, .int .i64 r.ack, .bool r.syn, .bool r.fin, .bool r.rst, .bool r.ha, .int .i64 r.win, .int .i64 r.mss, .bool r.sacks, .slice Ar r.bl.length cr, .string r.s] 24)); clear Hx; have Hx := Hx'; clear Hx'
  have Hy' := Lib.hid (block_alloc Hy.out (.cells #[.int .i64 r.fp, .int .i64 r.tp, .int .i64 r.sq, .int .i64 r.ack, .bool r.syn, .bool r.fin, .bool r.rst, .bool r.ha, .int .i64 r.win, .int .i64 r.mss, .bool r.sacks, .slice Ar r.bl.length cr, .string r.s] 24)); clear Hy; have Hy := Hy'; clear Hy'
  have Hu' := Lib.hid (block_alloc Hu.out (.cells #[.int .i64 r.fp, .int .i64 r.tp, .int .i64 r.sq, .int .i64 r.ack, .bool r.syn, .bool r.fin, .bool r.rst, .bool r.ha, .int .i64 r.win, .int .i64 r.mss, .bool r.sacks, .slice Ar r.bl.length cr, .string r.s] 24)); clear Hu; have Hu := Hu'; clear Hu'
  have Ho' := Lib.hid (block_alloc Ho.out (.cells #[.int .i64 r.fp, .int .i64 r.tp, .int .i64 r.sq, .int .i64 r.ack, .bool r.syn, .bool r.fin, .bool r.rst, .bool r.ha, .int .i64 r.win, .int .i64 r.mss, .bool r.sacks, .slice Ar r.bl.length cr, .string r.s] 24)); clear Ho; have Ho := Ho'; clear Ho'
  have Hubk' := Lib.hid (Hubk.out.alloc (.cells #[.int .i64 r.fp, .int .i64 r.tp, .int .i64 r.sq, .int .i64 r.ack, .bool r.syn, .bool r.fin, .bool r.rst, .bool r.ha, .int .i64 r.win, .int .i64 r.mss, .bool r.sacks, .slice Ar r.bl.length cr, .string r.s] 24)); clear Hubk; have Hubk := Hubk'; clear Hubk'
  have Hobk' := Lib.hid (Hobk.out.alloc (.cells #[.int .i64 r.fp, .int .i64 r.tp, .int .i64 r.sq, .int .i64 r.ack, .bool r.syn, .bool r.fin, .bool r.rst, .bool r.ha, .int .i64 r.win, .int .i64 r.mss, .bool r.sacks, .slice Ar r.bl.length cr, .string r.s] 24)); clear Hobk; have Hobk := Hobk'; clear Hobk'
  have Hrbk' := Lib.hid (Hrbk.out.alloc (.cells #[.int .i64 r.fp, .int .i64 r.tp, .int .i64 r.sq, .int .i64 r.ack, .bool r.syn, .bool r.fin, .bool r.rst, .bool r.ha, .int .i64 r.win, .int .i64 r.mss, .bool r.sacks, .slice Ar r.bl.length cr, .string r.s] 24)); clear Hrbk; have Hrbk := Hrbk'; clear Hrbk'
  have HB' := below_alloc (o := .cells #[.int .i64 r.fp, .int .i64 r.tp, .int .i64 r.sq, .int .i64 r.ack, .bool r.syn, .bool r.fin, .bool r.rst, .bool r.ha, .int .i64 r.win, .int .i64 r.mss, .bool r.sacks, .slice Ar r.bl.length cr, .string r.s] 24) HB; clear HB; have HB := HB'; clear HB'
  have Hm := Lib.hid (alloc_new' (w4.alloc (.cells #[.int .i64 r.fp, .int .i64 r.tp, .int .i64 r.sq, .int .i64 r.ack, .bool r.syn, .bool r.fin, .bool r.rst, .bool r.ha, .int .i64 r.win, .int .i64 r.mss, .bool r.sacks, .slice Ar r.bl.length cr, .string r.s] 24)) (.cells #[.int .i64 r.fp, .int .i64 r.tp, .int .i64 r.sq, .int .i64 r.ack, .bool r.syn, .bool r.fin, .bool r.rst, .bool r.ha, .int .i64 ywin, .int .i64 ymss, .bool r.sacks, .slice Ar r.bl.length cr, .string r.s] 24) (w4.heap.size + 1) (by simp))
  have Hx' := Lib.hid (block_alloc Hx.out (.cells #[.int .i64 r.fp, .int .i64 r.tp, .int .i64 r.sq, .int .i64 r.ack, .bool r.syn, .bool r.fin, .bool r.rst, .bool r.ha, .int .i64 ywin, .int .i64 ymss, .bool r.sacks, .slice Ar r.bl.length cr, .string r.s] 24)); clear Hx; have Hx := Hx'; clear Hx'
  have Hy' := Lib.hid (block_alloc Hy.out (.cells #[.int .i64 r.fp, .int .i64 r.tp, .int .i64 r.sq, .int .i64 r.ack, .bool r.syn, .bool r.fin, .bool r.rst, .bool r.ha, .int .i64 ywin, .int .i64 ymss, .bool r.sacks, .slice Ar r.bl.length cr, .string r.s] 24)); clear Hy; have Hy := Hy'; clear Hy'
  have Hu' := Lib.hid (block_alloc Hu.out (.cells #[.int .i64 r.fp, .int .i64 r.tp, .int .i64 r.sq, .int .i64 r.ack, .bool r.syn, .bool r.fin, .bool r.rst, .bool r.ha, .int .i64 ywin, .int .i64 ymss, .bool r.sacks, .slice Ar r.bl.length cr, .string r.s] 24)); clear Hu; have Hu := Hu'; clear Hu'
  have Ho' := Lib.hid (block_alloc Ho.out (.cells #[.int .i64 r.fp, .int .i64 r.tp, .int .i64 r.sq, .int .i64 r.ack, .bool r.syn, .bool r.fin, .bool r.rst, .bool r.ha, .int .i64 ywin, .int .i64 ymss, .bool r.sacks, .slice Ar r.bl.length cr, .string r.s] 24)); clear Ho; have Ho := Ho'; clear Ho'
  have Hr' := Lib.hid (block_alloc Hr.out (.cells #[.int .i64 r.fp, .int .i64 r.tp, .int .i64 r.sq, .int .i64 r.ack, .bool r.syn, .bool r.fin, .bool r.rst, .bool r.ha, .int .i64 ywin, .int .i64 ymss, .bool r.sacks, .slice Ar r.bl.length cr, .string r.s] 24)); clear Hr; have Hr := Hr'; clear Hr'
  have Hubk' := Lib.hid (Hubk.out.alloc (.cells #[.int .i64 r.fp, .int .i64 r.tp, .int .i64 r.sq, .int .i64 r.ack, .bool r.syn, .bool r.fin, .bool r.rst, .bool r.ha, .int .i64 ywin, .int .i64 ymss, .bool r.sacks, .slice Ar r.bl.length cr, .string r.s] 24)); clear Hubk; have Hubk := Hubk'; clear Hubk'
  have Hobk' := Lib.hid (Hobk.out.alloc (.cells #[.int .i64 r.fp, .int .i64 r.tp, .int .i64 r.sq, .int .i64 r.ack, .bool r.syn, .bool r.fin, .bool r.rst, .bool r.ha, .int .i64 ywin, .int .i64 ymss, .bool r.sacks, .slice Ar r.bl.length cr, .string r.s] 24)); clear Hobk; have Hobk := Hobk'; clear Hobk'
  have Hrbk' := Lib.hid (Hrbk.out.alloc (.cells #[.int .i64 r.fp, .int .i64 r.tp, .int .i64 r.sq, .int .i64 r.ack, .bool r.syn, .bool r.fin, .bool r.rst, .bool r.ha, .int .i64 ywin, .int .i64 ymss, .bool r.sacks, .slice Ar r.bl.length cr, .string r.s] 24)); clear Hrbk; have Hrbk := Hrbk'; clear Hrbk'
  have HB' := below_alloc (o := .cells #[.int .i64 r.fp, .int .i64 r.tp, .int .i64 r.sq, .int .i64 r.ack, .bool r.syn, .bool r.fin, .bool r.rst, .bool r.ha, .int .i64 ywin, .int .i64 ymss, .bool r.sacks, .slice Ar r.bl.length cr, .string r.s] 24) HB; clear HB; have HB := HB'; clear HB'
  have Su := cells13 Hu.out
  obtain ⟨⟨qu0, qu1, qu2, qu3, qu4, qu5, qu6, qu7, qu8, qu9, qu10, qu11, qu12⟩, zu0, zu1, zu2, zu3, zu4, zu5, zu6, zu7, zu8, zu9, zu10, zu11, zu12⟩ := Su
  have lt_u := blk_lt Hu.out
  have So := cells13 Ho.out
  obtain ⟨⟨qo0, qo1, qo2, qo3, qo4, qo5, qo6, qo7, qo8, qo9, qo10, qo11, qo12⟩, zo0, zo1, zo2, zo3, zo4, zo5, zo6, zo7, zo8, zo9, zo10, zo11, zo12⟩ := So
  have lt_o := blk_lt Ho.out
  have Sr := cells13 Hr.out
  obtain ⟨⟨qr0, qr1, qr2, qr3, qr4, qr5, qr6, qr7, qr8, qr9, qr10, qr11, qr12⟩, zr0, zr1, zr2, zr3, zr4, zr5, zr6, zr7, zr8, zr9, zr10, zr11, zr12⟩ := Sr
  have lt_r := blk_lt Hr.out
  have Sm := cells13 Hm.out
  obtain ⟨⟨qm0, qm1, qm2, qm3, qm4, qm5, qm6, qm7, qm8, qm9, qm10, qm11, qm12⟩, zm0, zm1, zm2, zm3, zm4, zm5, zm6, zm7, zm8, zm9, zm10, zm11, zm12⟩ := Sm
  have lt_m := blk_lt Hm.out
  go_wp2_with fail
  clear qu0 zu0 qu1 zu1 qu2 zu2 qu3 zu3 qu4 zu4 qu5 zu5 qu6 zu6 qu7 zu7 qu8 zu8 qu9 zu9 qu10 zu10 qu11 zu11 qu12 zu12 qo0 zo0 qo1 zo1 qo2 zo2 qo3 zo3 qo4 zo4 qo5 zo5 qo6 zo6 qo7 zo7 qo8 zo8 qo9 zo9 qo10 zo10 qo11 zo11 qo12 zo12 qr0 zr0 qr1 zr1 qr2 zr2 qr3 zr3 qr4 zr4 qr5 zr5 qr6 zr6 qr7 zr7 qr8 zr8 qr9 zr9 qr10 zr10 qr11 zr11 qr12 zr12 qm0 zm0 qm1 zm1 qm2 zm2 qm3 zm3 qm4 zm4 qm5 zm5 qm6 zm6 qm7 zm7 qm8 zm8 qm9 zm9 qm10 zm10 qm11 zm11 qm12 zm12
  have Hl := Lib.hid (alloc_new' ((w4.alloc (.cells #[.int .i64 r.fp, .int .i64 r.tp, .int .i64 r.sq, .int .i64 r.ack, .bool r.syn, .bool r.fin, .bool r.rst, .bool r.ha, .int .i64 r.win, .int .i64 r.mss, .bool r.sacks, .slice Ar r.bl.length cr, .string r.s] 24)).alloc (.cells #[.int .i64 r.fp, .int .i64 r.tp, .int .i64 r.sq, .int .i64 r.ack, .bool r.syn, .bool r.fin, .bool r.rst, .bool r.ha, .int .i64 ywin, .int .i64 ymss, .bool r.sacks, .slice Ar r.bl.length cr, .string r.s] 24)) (.cells #[.int .i64 u.fp, .int .i64 u.tp, .int .i64 u.sq, .int .i64 u.ack, .bool u.syn, .bool u.fin, .bool u.rst, .bool u.ha, .int .i64 u.win, .int .i64 u.mss, .bool u.sacks, .slice Au u.bl.length cu, .string u.s, .int .i64 r.fp, .int .i64 r.tp, .int .i64 r.sq, .int .i64 r.ack, .bool r.syn, .bool r.fin, .bool r.rst, .bool r.ha, .int .i64 r.win, .int .i64 r.mss, .bool r.sacks, .slice Ar r.bl.length cr, .string r.s, .int .i64 r.fp, .int .i64 r.tp, .int .i64 r.sq, .int .i64 r.ack, .bool r.syn, .bool r.fin, .bool r.rst, .bool r.ha, .int .i64 ywin, .int .i64 ymss, .bool r.sacks, .slice Ar r.bl.length cr, .string r.s, .int .i64 o.fp, .int .i64 o.tp, .int .i64 o.sq, .int .i64 o.ack, .bool o.syn, .bool o.fin, .bool o.rst, .bool o.ha, .int .i64 o.win, .int .i64 o.mss, .bool o.sacks, .slice Ao o.bl.length co, .string o.s] 24) (w4.heap.size + 1 + 1) (by simp))
  have Hx' := Lib.hid (block_alloc Hx.out (.cells #[.int .i64 u.fp, .int .i64 u.tp, .int .i64 u.sq, .int .i64 u.ack, .bool u.syn, .bool u.fin, .bool u.rst, .bool u.ha, .int .i64 u.win, .int .i64 u.mss, .bool u.sacks, .slice Au u.bl.length cu, .string u.s, .int .i64 r.fp, .int .i64 r.tp, .int .i64 r.sq, .int .i64 r.ack, .bool r.syn, .bool r.fin, .bool r.rst, .bool r.ha, .int .i64 r.win, .int .i64 r.mss, .bool r.sacks, .slice Ar r.bl.length cr, .string r.s, .int .i64 r.fp, .int .i64 r.tp, .int .i64 r.sq, .int .i64 r.ack, .bool r.syn, .bool r.fin, .bool r.rst, .bool r.ha, .int .i64 ywin, .int .i64 ymss, .bool r.sacks, .slice Ar r.bl.length cr, .string r.s, .int .i64 o.fp, .int .i64 o.tp, .int .i64 o.sq, .int .i64 o.ack, .bool o.syn, .bool o.fin, .bool o.rst, .bool o.ha, .int .i64 o.win, .int .i64 o.mss, .bool o.sacks, .slice Ao o.bl.length co, .string o.s] 24)); clear Hx; have Hx := Hx'; clear Hx'
  have Hy' := Lib.hid (block_alloc Hy.out (.cells #[.int .i64 u.fp, .int .i64 u.tp, .int .i64 u.sq, .int .i64 u.ack, .bool u.syn, .bool u.fin, .bool u.rst, .bool u.ha, .int .i64 u.win, .int .i64 u.mss, .bool u.sacks, .slice Au u.bl.length cu, .string u.s, .int .i64 r.fp, .int .i64 r.tp, .int .i64 r.sq, .int .i64 r.ack, .bool r.syn, .bool r.fin, .bool r.rst, .bool r.ha, .int .i64 r.win, .int .i64 r.mss, .bool r.sacks, .slice Ar r.bl.length cr, .string r.s, .int .i64 r.fp, .int .i64 r.tp, .int .i64 r.sq, .int .i64 r.ack, .bool r.syn, .bool r.fin, .bool r.rst, .bool r.ha, .int .i64 ywin, .int .i64 ymss, .bool r.sacks, .slice Ar r.bl.length cr, .string r.s, .int .i64 o.fp, .int .i64 o.tp, .int .i64 o.sq, .int .i64 o.ack, .bool o.syn, .bool o.fin, .bool o.rst, .bool o.ha, .int .i64 o.win, .int .i64 o.mss, .bool o.sacks, .slice Ao o.bl.length co, .string o.s] 24)); clear Hy; have Hy := Hy'; clear Hy'
  have Hu' := Lib.hid (block_alloc Hu.out (.cells #[.int .i64 u.fp, .int .i64 u.tp, .int .i64 u.sq, .int .i64 u.ack, .bool u.syn, .bool u.fin, .bool u.rst, .bool u.ha, .int .i64 u.win, .int .i64 u.mss, .bool u.sacks, .slice Au u.bl.length cu, .string u.s, .int .i64 r.fp, .int .i64 r.tp, .int .i64 r.sq, .int .i64 r.ack, .bool r.syn, .bool r.fin, .bool r.rst, .bool r.ha, .int .i64 r.win, .int .i64 r.mss, .bool r.sacks, .slice Ar r.bl.length cr, .string r.s, .int .i64 r.fp, .int .i64 r.tp, .int .i64 r.sq, .int .i64 r.ack, .bool r.syn, .bool r.fin, .bool r.rst, .bool r.ha, .int .i64 ywin, .int .i64 ymss, .bool r.sacks, .slice Ar r.bl.length cr, .string r.s, .int .i64 o.fp, .int .i64 o.tp, .int .i64 o.sq, .int .i64 o.ack, .bool o.syn, .bool o.fin, .bool o.rst, .bool o.ha, .int .i64 o.win, .int .i64 o.mss, .bool o.sacks, .slice Ao o.bl.length co, .string o.s] 24)); clear Hu; have Hu := Hu'; clear Hu'
  have Ho' := Lib.hid (block_alloc Ho.out (.cells #[.int .i64 u.fp, .int .i64 u.tp, .int .i64 u.sq, .int .i64 u.ack, .bool u.syn, .bool u.fin, .bool u.rst, .bool u.ha, .int .i64 u.win, .int .i64 u.mss, .bool u.sacks, .slice Au u.bl.length cu, .string u.s, .int .i64 r.fp, .int .i64 r.tp, .int .i64 r.sq, .int .i64 r.ack, .bool r.syn, .bool r.fin, .bool r.rst, .bool r.ha, .int .i64 r.win, .int .i64 r.mss, .bool r.sacks, .slice Ar r.bl.length cr, .string r.s, .int .i64 r.fp, .int .i64 r.tp, .int .i64 r.sq, .int .i64 r.ack, .bool r.syn, .bool r.fin, .bool r.rst, .bool r.ha, .int .i64 ywin, .int .i64 ymss, .bool r.sacks, .slice Ar r.bl.length cr, .string r.s, .int .i64 o.fp, .int .i64 o.tp, .int .i64 o.sq, .int .i64 o.ack, .bool o.syn, .bool o.fin, .bool o.rst, .bool o.ha, .int .i64 o.win, .int .i64 o.mss, .bool o.sacks, .slice Ao o.bl.length co, .string o.s] 24)); clear Ho; have Ho := Ho'; clear Ho'
  have Hr' := Lib.hid (block_alloc Hr.out (.cells #[.int .i64 u.fp, .int .i64 u.tp, .int .i64 u.sq, .int .i64 u.ack, .bool u.syn, .bool u.fin, .bool u.rst, .bool u.ha, .int .i64 u.win, .int .i64 u.mss, .bool u.sacks, .slice Au u.bl.length cu, .string u.s, .int .i64 r.fp, .int .i64 r.tp, .int .i64 r.sq, .int .i64 r.ack, .bool r.syn, .bool r.fin, .bool r.rst, .bool r.ha, .int .i64 r.win, .int .i64 r.mss, .bool r.sacks, .slice Ar r.bl.length cr, .string r.s, .int .i64 r.fp, .int .i64 r.tp, .int .i64 r.sq, .int .i64 r.ack, .bool r.syn, .bool r.fin, .bool r.rst, .bool r.ha, .int .i64 ywin, .int .i64 ymss, .bool r.sacks, .slice Ar r.bl.length cr, .string r.s, .int .i64 o.fp, .int .i64 o.tp, .int .i64 o.sq, .int .i64 o.ack, .bool o.syn, .bool o.fin, .bool o.rst, .bool o.ha, .int .i64 o.win, .int .i64 o.mss, .bool o.sacks, .slice Ao o.bl.length co, .string o.s] 24)); clear Hr; have Hr := Hr'; clear Hr'
  have Hm' := Lib.hid (block_alloc Hm.out (.cells #[.int .i64 u.fp, .int .i64 u.tp, .int .i64 u.sq, .int .i64 u.ack, .bool u.syn, .bool u.fin, .bool u.rst, .bool u.ha, .int .i64 u.win, .int .i64 u.mss, .bool u.sacks, .slice Au u.bl.length cu, .string u.s, .int .i64 r.fp, .int .i64 r.tp, .int .i64 r.sq, .int .i64 r.ack, .bool r.syn, .bool r.fin, .bool r.rst, .bool r.ha, .int .i64 r.win, .int .i64 r.mss, .bool r.sacks, .slice Ar r.bl.length cr, .string r.s, .int .i64 r.fp, .int .i64 r.tp, .int .i64 r.sq, .int .i64 r.ack, .bool r.syn, .bool r.fin, .bool r.rst, .bool r.ha, .int .i64 ywin, .int .i64 ymss, .bool r.sacks, .slice Ar r.bl.length cr, .string r.s, .int .i64 o.fp, .int .i64 o.tp, .int .i64 o.sq, .int .i64 o.ack, .bool o.syn, .bool o.fin, .bool o.rst, .bool o.ha, .int .i64 o.win, .int .i64 o.mss, .bool o.sacks, .slice Ao o.bl.length co, .string o.s] 24)); clear Hm; have Hm := Hm'; clear Hm'
  have Hubk' := Lib.hid (Hubk.out.alloc (.cells #[.int .i64 u.fp, .int .i64 u.tp, .int .i64 u.sq, .int .i64 u.ack, .bool u.syn, .bool u.fin, .bool u.rst, .bool u.ha, .int .i64 u.win, .int .i64 u.mss, .bool u.sacks, .slice Au u.bl.length cu, .string u.s, .int .i64 r.fp, .int .i64 r.tp, .int .i64 r.sq, .int .i64 r.ack, .bool r.syn, .bool r.fin, .bool r.rst, .bool r.ha, .int .i64 r.win, .int .i64 r.mss, .bool r.sacks, .slice Ar r.bl.length cr, .string r.s, .int .i64 r.fp, .int .i64 r.tp, .int .i64 r.sq, .int .i64 r.ack, .bool r.syn, .bool r.fin, .bool r.rst, .bool r.ha, .int .i64 ywin, .int .i64 ymss, .bool r.sacks, .slice Ar r.bl.length cr, .string r.s, .int .i64 o.fp, .int .i64 o.tp, .int .i64 o.sq, .int .i64 o.ack, .bool o.syn, .bool o.fin, .bool o.rst, .bool o.ha, .int .i64 o.win, .int .i64 o.mss, .bool o.sacks, .slice Ao o.bl.length co, .string o.s] 24)); clear Hubk; have Hubk := Hubk'; clear Hubk'
  have Hobk' := Lib.hid (Hobk.out.alloc (.cells #[.int .i64 u.fp, .int .i64 u.tp, .int .i64 u.sq, .int .i64 u.ack, .bool u.syn, .bool u.fin, .bool u.rst, .bool u.ha, .int .i64 u.win, .int .i64 u.mss, .bool u.sacks, .slice Au u.bl.length cu, .string u.s, .int .i64 r.fp, .int .i64 r.tp, .int .i64 r.sq, .int .i64 r.ack, .bool r.syn, .bool r.fin, .bool r.rst, .bool r.ha, .int .i64 r.win, .int .i64 r.mss, .bool r.sacks, .slice Ar r.bl.length cr, .string r.s, .int .i64 r.fp, .int .i64 r.tp, .int .i64 r.sq, .int .i64 r.ack, .bool r.syn, .bool r.fin, .bool r.rst, .bool r.ha, .int .i64 ywin, .int .i64 ymss, .bool r.sacks, .slice Ar r.bl.length cr, .string r.s, .int .i64 o.fp, .int .i64 o.tp, .int .i64 o.sq, .int .i64 o.ack, .bool o.syn, .bool o.fin, .bool o.rst, .bool o.ha, .int .i64 o.win, .int .i64 o.mss, .bool o.sacks, .slice Ao o.bl.length co, .string o.s] 24)); clear Hobk; have Hobk := Hobk'; clear Hobk'
  have Hrbk' := Lib.hid (Hrbk.out.alloc (.cells #[.int .i64 u.fp, .int .i64 u.tp, .int .i64 u.sq, .int .i64 u.ack, .bool u.syn, .bool u.fin, .bool u.rst, .bool u.ha, .int .i64 u.win, .int .i64 u.mss, .bool u.sacks, .slice Au u.bl.length cu, .string u.s, .int .i64 r.fp, .int .i64 r.tp, .int .i64 r.sq, .int .i64 r.ack, .bool r.syn, .bool r.fin, .bool r.rst, .bool r.ha, .int .i64 r.win, .int .i64 r.mss, .bool r.sacks, .slice Ar r.bl.length cr, .string r.s, .int .i64 r.fp, .int .i64 r.tp, .int .i64 r.sq, .int .i64 r.ack, .bool r.syn, .bool r.fin, .bool r.rst, .bool r.ha, .int .i64 ywin, .int .i64 ymss, .bool r.sacks, .slice Ar r.bl.length cr, .string r.s, .int .i64 o.fp, .int .i64 o.tp, .int .i64 o.sq, .int .i64 o.ack, .bool o.syn, .bool o.fin, .bool o.rst, .bool o.ha, .int .i64 o.win, .int .i64 o.mss, .bool o.sacks, .slice Ao o.bl.length co, .string o.s] 24)); clear Hrbk; have Hrbk := Hrbk'; clear Hrbk'
  have HB' := below_alloc (o := .cells #[.int .i64 u.fp, .int .i64 u.tp, .int .i64 u.sq, .int .i64 u.ack, .bool u.syn, .bool u.fin, .bool u.rst, .bool u.ha, .int .i64 u.win, .int .i64 u.mss, .bool u.sacks, .slice Au u.bl.length cu, .string u.s, .int .i64 r.fp, .int .i64 r.tp, .int .i64 r.sq, .int .i64 r.ack, .bool r.syn, .bool r.fin, .bool r.rst, .bool r.ha, .int .i64 r.win, .int .i64 r.mss, .bool r.sacks, .slice Ar r.bl.length cr, .string r.s, .int .i64 r.fp, .int .i64 r.tp, .int .i64 r.sq, .int .i64 r.ack, .bool r.syn, .bool r.fin, .bool r.rst, .bool r.ha, .int .i64 ywin, .int .i64 ymss, .bool r.sacks, .slice Ar r.bl.length cr, .string r.s, .int .i64 o.fp, .int .i64 o.tp, .int .i64 o.sq, .int .i64 o.ack, .bool o.syn, .bool o.fin, .bool o.rst, .bool o.ha, .int .i64 o.win, .int .i64 o.mss, .bool o.sacks, .slice Ao o.bl.length co, .string o.s] 24) HB; clear HB; have HB := HB'; clear HB'
  generalize ((w4.alloc (.cells #[.int .i64 r.fp, .int .i64 r.tp, .int .i64 r.sq, .int .i64 r.ack, .bool r.syn, .bool r.fin, .bool r.rst, .bool r.ha, .int .i64 r.win, .int .i64 r.mss, .bool r.sacks, .slice Ar r.bl.length cr, .string r.s] 24)).alloc (.cells #[.int .i64 r.fp, .int .i64 r.tp, .int .i64 r.sq, .int .i64 r.ack, .bool r.syn, .bool r.fin, .bool r.rst, .bool r.ha, .int .i64 ywin, .int .i64 ymss, .bool r.sacks, .slice Ar r.bl.length cr, .string r.s] 24)).alloc (.cells #[.int .i64 u.fp, .int .i64 u.tp, .int .i64 u.sq, .int .i64 u.ack, .bool u.syn, .bool u.fin, .bool u.rst, .bool u.ha, .int .i64 u.win, .int .i64 u.mss, .bool u.sacks, .slice Au u.bl.length cu, .string u.s, .int .i64 r.fp, .int .i64 r.tp, .int .i64 r.sq, .int .i64 r.ack, .bool r.syn, .bool r.fin, .bool r.rst, .bool r.ha, .int .i64 r.win, .int .i64 r.mss, .bool r.sacks, .slice Ar r.bl.length cr, .string r.s, .int .i64 r.fp, .int .i64 r.tp, .int .i64 r.sq, .int .i64 r.ack, .bool r.syn, .bool r.fin, .bool r.rst, .bool r.ha, .int .i64 ywin, .int .i64 ymss, .bool r.sacks, .slice Ar r.bl.length cr, .string r.s, .int .i64 o.fp, .int .i64 o.tp, .int .i64 o.sq, .int .i64 o.ack, .bool o.syn, .bool o.fin, .bool o.rst, .bool o.ha, .int .i64 o.win, .int .i64 o.mss, .bool o.sacks, .slice Ao o.bl.length co, .string o.s] 24) = b0 at *
  go_loopw [51] (fun i wl => ∃ k : Nat, k ≤ 4 ∧ i = .int .i64 (k : Int) ∧ Below b0.heap.size b0 wl) (fun i _ => 4 - (intOf i).toNat)
  case atStart => exact ⟨0, by omega, rfl, Below.refl _ _⟩
  case round =>
    obtain ⟨k, hk, rfl, HR⟩ := hrel
    obtain ⟨wo, rfl⟩ : ∃ wo : World, wo = wr := ⟨_, rfl⟩
    by_cases hlt : k < 4
    · as_aux_lemma =>
      obtain ⟨y, Ay, cy, ⟨hy6, hys, hybk⟩, e0, e1, e2, e3, e4, e5, e6, e7, e8, e9, e10, e11, e12⟩ := seg52 u r o ywin ymss Au Ar Ao cu cr co Hl.out ⟨Hu0.out.2.2.2.2.2.2.1, Hu0.out.2.2.2.2.2.2.2.2, Hubk.out⟩ ⟨(by have := Hr0.out.2.2.1.1.1; omega), (ok_size Hr0.out), Hrbk.out⟩ ⟨Ho0.out.2.2.2.2.2.2.1, Ho0.out.2.2.2.2.2.2.2.2, Hobk.out⟩ k hlt
      have HBo := Lib.hid HB; clear HB
      have lt_l := blk_lt Hl.out; have hzb := HR.size
      have g0 := bcell HR e0
      have g1 := bcell HR e1
      have g2 := bcell HR e2
      have g3 := bcell HR e3
      have g4 := bcell HR e4
      have g5 := bcell HR e5
      have g6 := bcell HR e6
      have g7 := bcell HR e7
      have g8 := bcell HR e8
      have g9 := bcell HR e9
      have g10 := bcell HR e10
      have g11 := bcell HR e11
      have g12 := bcell HR e12
      clear e0 e1 e2 e3 e4 e5 e6 e7 e8 e9 e10 e11 e12
      have HB := HR; clear HR
      have Hu' := Lib.hid (bblock HB Hu.out); clear Hu; have Hu := Hu'; clear Hu'
      have Hr' := Lib.hid (bblock HB Hr.out); clear Hr; have Hr := Hr'; clear Hr'
      have Hubk' := Lib.hid (Hubk.out.below HB); clear Hubk; have Hubk := Hubk'; clear Hubk'
      have Hrbk' := Lib.hid (Hrbk.out.below HB); clear Hrbk; have Hrbk := Hrbk'; clear Hrbk'
      have Hybk := Lib.hid (hybk.below HB); clear hybk
      have hkl : decide ((k : Int) < 4) = true := by simp; omega
      have hk0 : (0 : Int) ≤ (k : Int) := by omega
      go_wp2_with fail
      have Hy := Lib.hid (alloc_new' wo (.cells #[.int .i64 y.fp, .int .i64 y.tp, .int .i64 y.sq, .int .i64 y.ack, .bool y.syn, .bool y.fin, .bool y.rst, .bool y.ha, .int .i64 y.win, .int .i64 y.mss, .bool y.sacks, .slice Ay y.bl.length cy, .string y.s] 24) (wo.heap.size) (by simp))
      have Hu' := Lib.hid (block_alloc Hu.out (.cells #[.int .i64 y.fp, .int .i64 y.tp, .int .i64 y.sq, .int .i64 y.ack, .bool y.syn, .bool y.fin, .bool y.rst, .bool y.ha, .int .i64 y.win, .int .i64 y.mss, .bool y.sacks, .slice Ay y.bl.length cy, .string y.s] 24)); clear Hu; have Hu := Hu'; clear Hu'
      have Hr' := Lib.hid (block_alloc Hr.out (.cells #[.int .i64 y.fp, .int .i64 y.tp, .int .i64 y.sq, .int .i64 y.ack, .bool y.syn, .bool y.fin, .bool y.rst, .bool y.ha, .int .i64 y.win, .int .i64 y.mss, .bool y.sacks, .slice Ay y.bl.length cy, .string y.s] 24)); clear Hr; have Hr := Hr'; clear Hr'
      have Hubk' := Lib.hid (Hubk.out.alloc (.cells #[.int .i64 y.fp, .int .i64 y.tp, .int .i64 y.sq, .int .i64 y.ack, .bool y.syn, .bool y.fin, .bool y.rst, .bool y.ha, .int .i64 y.win, .int .i64 y.mss, .bool y.sacks, .slice Ay y.bl.length cy, .string y.s] 24)); clear Hubk; have Hubk := Hubk'; clear Hubk'
      have Hrbk' := Lib.hid (Hrbk.out.alloc (.cells #[.int .i64 y.fp, .int .i64 y.tp, .int .i64 y.sq, .int .i64 y.ack, .bool y.syn, .bool y.fin, .bool y.rst, .bool y.ha, .int .i64 y.win, .int .i64 y.mss, .bool y.sacks, .slice Ay y.bl.length cy, .string y.s] 24)); clear Hrbk; have Hrbk := Hrbk'; clear Hrbk'
      have Hybk' := Lib.hid (Hybk.out.alloc (.cells #[.int .i64 y.fp, .int .i64 y.tp, .int .i64 y.sq, .int .i64 y.ack, .bool y.syn, .bool y.fin, .bool y.rst, .bool y.ha, .int .i64 y.win, .int .i64 y.mss, .bool y.sacks, .slice Ay y.bl.length cy, .string y.s] 24)); clear Hybk; have Hybk := Hybk'; clear Hybk'
      have HB' := below_alloc (o := .cells #[.int .i64 y.fp, .int .i64 y.tp, .int .i64 y.sq, .int .i64 y.ack, .bool y.syn, .bool y.fin, .bool y.rst, .bool y.ha, .int .i64 y.win, .int .i64 y.mss, .bool y.sacks, .slice Ay y.bl.length cy, .string y.s] 24) HB; clear HB; have HB := HB'; clear HB'
      clear g0 g1 g2 g3 g4 g5 g6 g7 g8 g9 g10 g11 g12
      refine (HP.out _).mono ?_
      rintro e w' ⟨rfl, rfl⟩
      go_wp2_with fail
      have Hf := Lib.hid (alloc_new' (wo.alloc (.cells #[.int .i64 y.fp, .int .i64 y.tp, .int .i64 y.sq, .int .i64 y.ack, .bool y.syn, .bool y.fin, .bool y.rst, .bool y.ha, .int .i64 y.win, .int .i64 y.mss, .bool y.sacks, .slice Ay y.bl.length cy, .string y.s] 24)) (.cells #[.int .i64 from_, .int .i64 p] 3) (wo.heap.size + 1) (by simp))
      have Hu' := Lib.hid (block_alloc Hu.out (.cells #[.int .i64 from_, .int .i64 p] 3)); clear Hu; have Hu := Hu'; clear Hu'
      have Hr' := Lib.hid (block_alloc Hr.out (.cells #[.int .i64 from_, .int .i64 p] 3)); clear Hr; have Hr := Hr'; clear Hr'
      have Hy' := Lib.hid (block_alloc Hy.out (.cells #[.int .i64 from_, .int .i64 p] 3)); clear Hy; have Hy := Hy'; clear Hy'
      have Hubk' := Lib.hid (Hubk.out.alloc (.cells #[.int .i64 from_, .int .i64 p] 3)); clear Hubk; have Hubk := Hubk'; clear Hubk'
      have Hrbk' := Lib.hid (Hrbk.out.alloc (.cells #[.int .i64 from_, .int .i64 p] 3)); clear Hrbk; have Hrbk := Hrbk'; clear Hrbk'
      have Hybk' := Lib.hid (Hybk.out.alloc (.cells #[.int .i64 from_, .int .i64 p] 3)); clear Hybk; have Hybk := Hybk'; clear Hybk'
      have HB' := below_alloc (o := .cells #[.int .i64 from_, .int .i64 p] 3) HB; clear HB; have HB := HB'; clear HB'
      generalize (wo.alloc (.cells #[.int .i64 y.fp, .int .i64 y.tp, .int .i64 y.sq, .int .i64 y.ack, .bool y.syn, .bool y.fin, .bool y.rst, .bool y.ha, .int .i64 y.win, .int .i64 y.mss, .bool y.sacks, .slice Ay y.bl.length cy, .string y.s] 24)).alloc (.cells #[.int .i64 from_, .int .i64 p] 3) = b1 at *
      have hyn : y.bl.length ≤ 9223372036854775807 := by omega
      have HEn := Lib.hid fun f d W hb => encV_any f d y Ay cy W hyn hb
      have HRn := Lib.hid fun f d W hb => rencV_any f d y Ay cy W hyn hb
      have HBm := Lib.hid HB
      have HQB : Hid (∀ W, Calls Try.prog 13 #[.int .i64 to_, .int .i64 4294967296] W fun e w' => e = .returned (.int .i64 q) ∧ Below W.heap.size W w') := Lib.hid fun W => (HQ.out W).mono fun e w' ⟨h, k⟩ => ⟨h, by subst k; exact Below.refl _ _⟩
      go_loopw [60] (fun i wl => ∃ j : Nat, j ≤ 2 ∧ i = .int .i64 (j : Int) ∧ Below b1.heap.size b1 wl) (fun i _ => 2 - (intOf i).toNat)
      case atStart => exact ⟨0, by omega, rfl, Below.refl _ _⟩
      case round =>
        obtain ⟨j, hj, rfl, HR⟩ := hrel
        obtain ⟨wi, rfl⟩ : ∃ wo : World, wo = wr := ⟨_, rfl⟩
        by_cases hjt : j < 2
        · as_aux_lemma =>
          obtain ⟨av, hav⟩ : ∃ av : Int, b1.cell? ⟨wo.heap.size + 1, j, none⟩ = some (.int .i64 av) := by
            match j, hjt with
            | 0, _ => exact ⟨_, (cell_of_block (k := 0) Hf.out rfl).1⟩
            | 1, _ => exact ⟨_, (cell_of_block (k := 1) Hf.out rfl).1⟩
          obtain ⟨t, e, hte⟩ := encV_two av q y
          have HE : Hid (∀ W, Bks W Ay y.bl.length y.bl → Calls Try.prog 14 #[.int .i64 av, .int .i64 q, .agg #[.int .i64 y.fp, .int .i64 y.tp, .int .i64 y.sq, .int .i64 y.ack, .bool y.syn, .bool y.fin, .bool y.rst, .bool y.ha, .int .i64 y.win, .int .i64 y.mss, .bool y.sacks, .slice Ay y.bl.length cy, .string y.s]] W fun e' w' => e' = .returned (.tuple #[.string t, .int .i64 e]) ∧ Below W.heap.size W w') := Lib.hid fun W hb => hte ▸ HEn.out av q W hb
          have HRE : Hid (∀ W, Bks W Ay y.bl.length y.bl → Calls Try.prog 15 #[.int .i64 av, .int .i64 q, .agg #[.int .i64 y.fp, .int .i64 y.tp, .int .i64 y.sq, .int .i64 y.ack, .bool y.syn, .bool y.fin, .bool y.rst, .bool y.ha, .int .i64 y.win, .int .i64 y.mss, .bool y.sacks, .slice Ay y.bl.length cy, .string y.s]] W fun e' w' => e' = .returned (.tuple #[.string t, .int .i64 e]) ∧ Below W.heap.size W w') := Lib.hid fun W hb => hte ▸ HRn.out av q W hb
          clear hte
          have hav' := bcell HR hav; clear hav
          have hjl : decide ((j : Int) < 2) = true := by simp; omega
          have hj0 : (0 : Int) ≤ (j : Int) := by omega
          have lt_f := blk_lt Hf.out
          have hzr := HR.size
          go_upto_region 16 with fail
          have HBx := Lib.hid HB; clear HB; have HB := HR; clear HR
          have Hy' := Lib.hid (bblock HB Hy.out); clear Hy; have Hy := Hy'; clear Hy'
          have Hybk' := Lib.hid (Hybk.out.below HB); clear Hybk; have Hybk := Hybk'; clear Hybk'
          have HR := Below.refl wi.heap.size wi
          have gy0 : Hid (wi.cell? ⟨wo.heap.size, 0, none⟩ = some (.int .i64 y.fp)) := Lib.hid (cell_of_block (k := 0) Hy.out rfl).1
          have gy1 : Hid (wi.cell? ⟨wo.heap.size, 1, none⟩ = some (.int .i64 y.tp)) := Lib.hid (cell_of_block (k := 1) Hy.out rfl).1
          have gy2 : Hid (wi.cell? ⟨wo.heap.size, 2, none⟩ = some (.int .i64 y.sq)) := Lib.hid (cell_of_block (k := 2) Hy.out rfl).1
          have gy3 : Hid (wi.cell? ⟨wo.heap.size, 3, none⟩ = some (.int .i64 y.ack)) := Lib.hid (cell_of_block (k := 3) Hy.out rfl).1
          have gy4 : Hid (wi.cell? ⟨wo.heap.size, 4, none⟩ = some (.bool y.syn)) := Lib.hid (cell_of_block (k := 4) Hy.out rfl).1
          have gy5 : Hid (wi.cell? ⟨wo.heap.size, 5, none⟩ = some (.bool y.fin)) := Lib.hid (cell_of_block (k := 5) Hy.out rfl).1
          have gy6 : Hid (wi.cell? ⟨wo.heap.size, 6, none⟩ = some (.bool y.rst)) := Lib.hid (cell_of_block (k := 6) Hy.out rfl).1
          have gy7 : Hid (wi.cell? ⟨wo.heap.size, 7, none⟩ = some (.bool y.ha)) := Lib.hid (cell_of_block (k := 7) Hy.out rfl).1
          have gy8 : Hid (wi.cell? ⟨wo.heap.size, 8, none⟩ = some (.int .i64 y.win)) := Lib.hid (cell_of_block (k := 8) Hy.out rfl).1
          have gy9 : Hid (wi.cell? ⟨wo.heap.size, 9, none⟩ = some (.int .i64 y.mss)) := Lib.hid (cell_of_block (k := 9) Hy.out rfl).1
          have gy10 : Hid (wi.cell? ⟨wo.heap.size, 10, none⟩ = some (.bool y.sacks)) := Lib.hid (cell_of_block (k := 10) Hy.out rfl).1
          have gy11 : Hid (wi.cell? ⟨wo.heap.size, 11, none⟩ = some (.slice Ay y.bl.length cy)) := Lib.hid (cell_of_block (k := 11) Hy.out rfl).1
          have gy12 : Hid (wi.cell? ⟨wo.heap.size, 12, none⟩ = some (.string y.s)) := Lib.hid (cell_of_block (k := 12) Hy.out rfl).1
          go_region_held3 (fun w' => w'.cell? ⟨wo.heap.size, 0, none⟩ = some (.int .i64 y.fp) ∧ w'.cell? ⟨wo.heap.size, 1, none⟩ = some (.int .i64 y.tp) ∧ w'.cell? ⟨wo.heap.size, 2, none⟩ = some (.int .i64 y.sq) ∧ w'.cell? ⟨wo.heap.size, 3, none⟩ = some (.int .i64 y.ack) ∧ w'.cell? ⟨wo.heap.size, 4, none⟩ = some (.bool y.syn) ∧ w'.cell? ⟨wo.heap.size, 5, none⟩ = some (.bool y.fin) ∧ w'.cell? ⟨wo.heap.size, 6, none⟩ = some (.bool y.rst) ∧ w'.cell? ⟨wo.heap.size, 7, none⟩ = some (.bool y.ha) ∧ w'.cell? ⟨wo.heap.size, 8, none⟩ = some (.int .i64 y.win) ∧ w'.cell? ⟨wo.heap.size, 9, none⟩ = some (.int .i64 y.mss) ∧ w'.cell? ⟨wo.heap.size, 10, none⟩ = some (.bool y.sacks) ∧ w'.cell? ⟨wo.heap.size, 11, none⟩ = some (.slice Ay y.bl.length cy) ∧ w'.cell? ⟨wo.heap.size, 12, none⟩ = some (.string y.s) ∧ Below wi.heap.size wi w') (first | with_reducible exact ⟨bcell (hRv2.out) gy0.out, bcell (hRv2.out) gy1.out, bcell (hRv2.out) gy2.out, bcell (hRv2.out) gy3.out, bcell (hRv2.out) gy4.out, bcell (hRv2.out) gy5.out, bcell (hRv2.out) gy6.out, bcell (hRv2.out) gy7.out, bcell (hRv2.out) gy8.out, bcell (hRv2.out) gy9.out, bcell (hRv2.out) gy10.out, bcell (hRv2.out) gy11.out, bcell (hRv2.out) gy12.out, hRv2.out⟩ | with_reducible exact ⟨bcell (hRv1.out) gy0.out, bcell (hRv1.out) gy1.out, bcell (hRv1.out) gy2.out, bcell (hRv1.out) gy3.out, bcell (hRv1.out) gy4.out, bcell (hRv1.out) gy5.out, bcell (hRv1.out) gy6.out, bcell (hRv1.out) gy7.out, bcell (hRv1.out) gy8.out, bcell (hRv1.out) gy9.out, bcell (hRv1.out) gy10.out, bcell (hRv1.out) gy11.out, bcell (hRv1.out) gy12.out, hRv1.out⟩ | exact ⟨gy0.out, gy1.out, gy2.out, gy3.out, gy4.out, gy5.out, gy6.out, gy7.out, gy8.out, gy9.out, gy10.out, gy11.out, gy12.out, HR.drew⟩)
            (first | (go_at_call 14; have _t := hRv1; clear _t; refine (HE.out _ (Hybk.out.below (hRv1.out))).mono ?_; rintro e v2 ⟨rfl, hbv2⟩; have hRv2 := Lib.hid (below_call hRv1.out hbv2)) | (go_at_call 13; refine (HQB.out _).mono ?_; rintro e v1 ⟨rfl, hbv1⟩; have hRv1 := Lib.hid (below_call HR.drew hbv1)))
          have hb := hRv2.out
          clear HR hRv1 hbv1 hRv2 hbv2 gy0 gy1 gy2 gy3 gy4 gy5 gy6 gy7 gy8 gy9 gy10 gy11 gy12
          have Hy' := Lib.hid (bblock hb Hy.out); clear Hy; have Hy := Hy'; clear Hy'
          have Hybk' := Lib.hid (Hybk.out.below hb); clear Hybk; have Hybk := Hybk'; clear Hybk'
          have HB' := below_call HB hb; clear HB hb; have HB := HB'; clear HB'; have hz := HB.size
          go_upto_region 17 with fail
          have HR := Below.refl v2.heap.size v2
          have gy0 : Hid (v2.cell? ⟨wo.heap.size, 0, none⟩ = some (.int .i64 y.fp)) := Lib.hid (cell_of_block (k := 0) Hy.out rfl).1
          have gy1 : Hid (v2.cell? ⟨wo.heap.size, 1, none⟩ = some (.int .i64 y.tp)) := Lib.hid (cell_of_block (k := 1) Hy.out rfl).1
          have gy2 : Hid (v2.cell? ⟨wo.heap.size, 2, none⟩ = some (.int .i64 y.sq)) := Lib.hid (cell_of_block (k := 2) Hy.out rfl).1
          have gy3 : Hid (v2.cell? ⟨wo.heap.size, 3, none⟩ = some (.int .i64 y.ack)) := Lib.hid (cell_of_block (k := 3) Hy.out rfl).1
          have gy4 : Hid (v2.cell? ⟨wo.heap.size, 4, none⟩ = some (.bool y.syn)) := Lib.hid (cell_of_block (k := 4) Hy.out rfl).1
          have gy5 : Hid (v2.cell? ⟨wo.heap.size, 5, none⟩ = some (.bool y.fin)) := Lib.hid (cell_of_block (k := 5) Hy.out rfl).1
          have gy6 : Hid (v2.cell? ⟨wo.heap.size, 6, none⟩ = some (.bool y.rst)) := Lib.hid (cell_of_block (k := 6) Hy.out rfl).1
          have gy7 : Hid (v2.cell? ⟨wo.heap.size, 7, none⟩ = some (.bool y.ha)) := Lib.hid (cell_of_block (k := 7) Hy.out rfl).1
          have gy8 : Hid (v2.cell? ⟨wo.heap.size, 8, none⟩ = some (.int .i64 y.win)) := Lib.hid (cell_of_block (k := 8) Hy.out rfl).1
          have gy9 : Hid (v2.cell? ⟨wo.heap.size, 9, none⟩ = some (.int .i64 y.mss)) := Lib.hid (cell_of_block (k := 9) Hy.out rfl).1
          have gy10 : Hid (v2.cell? ⟨wo.heap.size, 10, none⟩ = some (.bool y.sacks)) := Lib.hid (cell_of_block (k := 10) Hy.out rfl).1
          have gy11 : Hid (v2.cell? ⟨wo.heap.size, 11, none⟩ = some (.slice Ay y.bl.length cy)) := Lib.hid (cell_of_block (k := 11) Hy.out rfl).1
          have gy12 : Hid (v2.cell? ⟨wo.heap.size, 12, none⟩ = some (.string y.s)) := Lib.hid (cell_of_block (k := 12) Hy.out rfl).1
          go_region_held3 (fun w' => w'.cell? ⟨wo.heap.size, 0, none⟩ = some (.int .i64 y.fp) ∧ w'.cell? ⟨wo.heap.size, 1, none⟩ = some (.int .i64 y.tp) ∧ w'.cell? ⟨wo.heap.size, 2, none⟩ = some (.int .i64 y.sq) ∧ w'.cell? ⟨wo.heap.size, 3, none⟩ = some (.int .i64 y.ack) ∧ w'.cell? ⟨wo.heap.size, 4, none⟩ = some (.bool y.syn) ∧ w'.cell? ⟨wo.heap.size, 5, none⟩ = some (.bool y.fin) ∧ w'.cell? ⟨wo.heap.size, 6, none⟩ = some (.bool y.rst) ∧ w'.cell? ⟨wo.heap.size, 7, none⟩ = some (.bool y.ha) ∧ w'.cell? ⟨wo.heap.size, 8, none⟩ = some (.int .i64 y.win) ∧ w'.cell? ⟨wo.heap.size, 9, none⟩ = some (.int .i64 y.mss) ∧ w'.cell? ⟨wo.heap.size, 10, none⟩ = some (.bool y.sacks) ∧ w'.cell? ⟨wo.heap.size, 11, none⟩ = some (.slice Ay y.bl.length cy) ∧ w'.cell? ⟨wo.heap.size, 12, none⟩ = some (.string y.s) ∧ Below v2.heap.size v2 w') (first | with_reducible exact ⟨bcell (hRx2.out) gy0.out, bcell (hRx2.out) gy1.out, bcell (hRx2.out) gy2.out, bcell (hRx2.out) gy3.out, bcell (hRx2.out) gy4.out, bcell (hRx2.out) gy5.out, bcell (hRx2.out) gy6.out, bcell (hRx2.out) gy7.out, bcell (hRx2.out) gy8.out, bcell (hRx2.out) gy9.out, bcell (hRx2.out) gy10.out, bcell (hRx2.out) gy11.out, bcell (hRx2.out) gy12.out, hRx2.out⟩ | with_reducible exact ⟨bcell (hRx1.out) gy0.out, bcell (hRx1.out) gy1.out, bcell (hRx1.out) gy2.out, bcell (hRx1.out) gy3.out, bcell (hRx1.out) gy4.out, bcell (hRx1.out) gy5.out, bcell (hRx1.out) gy6.out, bcell (hRx1.out) gy7.out, bcell (hRx1.out) gy8.out, bcell (hRx1.out) gy9.out, bcell (hRx1.out) gy10.out, bcell (hRx1.out) gy11.out, bcell (hRx1.out) gy12.out, hRx1.out⟩ | exact ⟨gy0.out, gy1.out, gy2.out, gy3.out, gy4.out, gy5.out, gy6.out, gy7.out, gy8.out, gy9.out, gy10.out, gy11.out, gy12.out, HR.drew⟩)
            (first | (go_at_call 15; have _t := hRx1; clear _t; refine (HRE.out _ (Hybk.out.below (hRx1.out))).mono ?_; rintro e x2 ⟨rfl, hbx2⟩; have hRx2 := Lib.hid (below_call hRx1.out hbx2)) | (go_at_call 13; refine (HQB.out _).mono ?_; rintro e x1 ⟨rfl, hbx1⟩; have hRx1 := Lib.hid (below_call HR.drew hbx1)))
          have hb := hRx2.out
          clear HR hRx1 hbx1 hRx2 hbx2 gy0 gy1 gy2 gy3 gy4 gy5 gy6 gy7 gy8 gy9 gy10 gy11 gy12
          have Hy' := Lib.hid (bblock hb Hy.out); clear Hy; have Hy := Hy'; clear Hy'
          have Hybk' := Lib.hid (Hybk.out.below hb); clear Hybk; have Hybk := Hybk'; clear Hybk'
          have HB' := below_call HB hb; clear HB hb; have HB := HB'; clear HB'; have hz := HB.size
          go_wp2_with fail
          go_roundw
          case rel => exact ⟨j + 1, by omega, by go_num, HB⟩
          case measure => simp [intOf]; omega
        · as_aux_lemma =>
          have hjl : decide ((j : Int) < 2) = false := by simp; omega
          have hzr := HR.size
          have HBx := Lib.hid HB; clear HB; have HB := HR; clear HR
          have Hy' := Lib.hid (bblock HB Hy.out); clear Hy; have Hy := Hy'; clear Hy'
          have Hu' := Lib.hid (bblock HB Hu.out); clear Hu; have Hu := Hu'; clear Hu'
          have Hr' := Lib.hid (bblock HB Hr.out); clear Hr; have Hr := Hr'; clear Hr'
          have Hybk' := Lib.hid (Hybk.out.below HB); clear Hybk; have Hybk := Hybk'; clear Hybk'
          have Hubk' := Lib.hid (Hubk.out.below HB); clear Hubk; have Hubk := Hubk'; clear Hubk'
          have Hrbk' := Lib.hid (Hrbk.out.below HB); clear Hrbk; have Hrbk := Hrbk'; clear Hrbk'
          obtain ⟨t, e, hte⟩ := encV_two 1 to_ y
          have HE : Hid (∀ W, Bks W Ay y.bl.length y.bl → Calls Try.prog 14 #[.int .i64 1, .int .i64 to_, .agg #[.int .i64 y.fp, .int .i64 y.tp, .int .i64 y.sq, .int .i64 y.ack, .bool y.syn, .bool y.fin, .bool y.rst, .bool y.ha, .int .i64 y.win, .int .i64 y.mss, .bool y.sacks, .slice Ay y.bl.length cy, .string y.s]] W fun e' w' => e' = .returned (.tuple #[.string t, .int .i64 e]) ∧ Below W.heap.size W w') := Lib.hid fun W hb => hte ▸ HEn.out 1 to_ W hb
          have HRE : Hid (∀ W, Bks W Ay y.bl.length y.bl → Calls Try.prog 15 #[.int .i64 1, .int .i64 to_, .agg #[.int .i64 y.fp, .int .i64 y.tp, .int .i64 y.sq, .int .i64 y.ack, .bool y.syn, .bool y.fin, .bool y.rst, .bool y.ha, .int .i64 y.win, .int .i64 y.mss, .bool y.sacks, .slice Ay y.bl.length cy, .string y.s]] W fun e' w' => e' = .returned (.tuple #[.string t, .int .i64 e]) ∧ Below W.heap.size W w') := Lib.hid fun W hb => hte ▸ HRn.out 1 to_ W hb
          clear hte
          have hun : u.bl.length ≤ 9223372036854775807 := by have := Hu0.out.2.2.2.2.2.2.1; omega
          have hrn : r.bl.length ≤ 9223372036854775807 := by have := Hr0.out.2.2.1.1.1; omega
          obtain ⟨bv, hbv⟩ : ∃ bv, vldB y.fp y.tp y.sq y.ack y.syn y.fin y.rst y.ha y.win y.mss y.sacks y.bl y.s.size = bv := ⟨_, rfl⟩
          obtain ⟨s1, hs1⟩ : ∃ b, sameB y u = b := ⟨_, rfl⟩
          obtain ⟨s2, hs2⟩ : ∃ b, sameB r y = b := ⟨_, rfl⟩
          obtain ⟨n1, hn1⟩ : ∃ n : Int, (if y.syn || y.fin then (y.s.size : Int) + 1 else (y.s.size : Int)) = n := ⟨_, rfl⟩
          have HV : Hid (∀ W, Bks W Ay y.bl.length y.bl → Calls Try.prog 16 #[.agg #[.int .i64 y.fp, .int .i64 y.tp, .int .i64 y.sq, .int .i64 y.ack, .bool y.syn, .bool y.fin, .bool y.rst, .bool y.ha, .int .i64 y.win, .int .i64 y.mss, .bool y.sacks, .slice Ay y.bl.length cy, .string y.s]] W fun e' w' => e' = .returned (.bool bv) ∧ Below W.heap.size W w') := Lib.hid fun W hb => hbv ▸ valid_any y.fp y.tp y.sq y.ack y.syn y.fin y.rst y.ha y.win y.mss y.sacks Ay y.bl.length cy y.bl y.s W hyn hb
          have HRV : Hid (∀ W, Bks W Ay y.bl.length y.bl → Calls Try.prog 17 #[.agg #[.int .i64 y.fp, .int .i64 y.tp, .int .i64 y.sq, .int .i64 y.ack, .bool y.syn, .bool y.fin, .bool y.rst, .bool y.ha, .int .i64 y.win, .int .i64 y.mss, .bool y.sacks, .slice Ay y.bl.length cy, .string y.s]] W fun e' w' => e' = .returned (.bool bv) ∧ Below W.heap.size W w') := Lib.hid fun W hb => hbv ▸ rvalid_any y.fp y.tp y.sq y.ack y.syn y.fin y.rst y.ha y.win y.mss y.sacks Ay y.bl.length cy y.bl y.s W hyn hb
          have HS1 : Hid (∀ W, Bks W Ay y.bl.length y.bl → Bks W Au u.bl.length u.bl → Calls Try.prog 18 #[.agg #[.int .i64 y.fp, .int .i64 y.tp, .int .i64 y.sq, .int .i64 y.ack, .bool y.syn, .bool y.fin, .bool y.rst, .bool y.ha, .int .i64 y.win, .int .i64 y.mss, .bool y.sacks, .slice Ay y.bl.length cy, .string y.s], .agg #[.int .i64 u.fp, .int .i64 u.tp, .int .i64 u.sq, .int .i64 u.ack, .bool u.syn, .bool u.fin, .bool u.rst, .bool u.ha, .int .i64 u.win, .int .i64 u.mss, .bool u.sacks, .slice Au u.bl.length cu, .string u.s]] W fun e' w' => e' = .returned (.bool s1) ∧ Below W.heap.size W w') := Lib.hid fun W h1 h2 => hs1 ▸ same_any y u Ay Au cy cu W hyn h1 h2
          have HRS1 : Hid (∀ W, Bks W Ay y.bl.length y.bl → Bks W Au u.bl.length u.bl → Calls Try.prog 19 #[.agg #[.int .i64 y.fp, .int .i64 y.tp, .int .i64 y.sq, .int .i64 y.ack, .bool y.syn, .bool y.fin, .bool y.rst, .bool y.ha, .int .i64 y.win, .int .i64 y.mss, .bool y.sacks, .slice Ay y.bl.length cy, .string y.s], .agg #[.int .i64 u.fp, .int .i64 u.tp, .int .i64 u.sq, .int .i64 u.ack, .bool u.syn, .bool u.fin, .bool u.rst, .bool u.ha, .int .i64 u.win, .int .i64 u.mss, .bool u.sacks, .slice Au u.bl.length cu, .string u.s]] W fun e' w' => e' = .returned (.bool s1) ∧ Below W.heap.size W w') := Lib.hid fun W h1 h2 => hs1 ▸ rsame_any y u Ay Au cy cu W hyn h1 h2
          have HS2 : Hid (∀ W, Bks W Ar r.bl.length r.bl → Bks W Ay y.bl.length y.bl → Calls Try.prog 18 #[.agg #[.int .i64 r.fp, .int .i64 r.tp, .int .i64 r.sq, .int .i64 r.ack, .bool r.syn, .bool r.fin, .bool r.rst, .bool r.ha, .int .i64 r.win, .int .i64 r.mss, .bool r.sacks, .slice Ar r.bl.length cr, .string r.s], .agg #[.int .i64 y.fp, .int .i64 y.tp, .int .i64 y.sq, .int .i64 y.ack, .bool y.syn, .bool y.fin, .bool y.rst, .bool y.ha, .int .i64 y.win, .int .i64 y.mss, .bool y.sacks, .slice Ay y.bl.length cy, .string y.s]] W fun e' w' => e' = .returned (.bool s2) ∧ Below W.heap.size W w') := Lib.hid fun W h1 h2 => hs2 ▸ same_any r y Ar Ay cr cy W hrn h1 h2
          have HRS2 : Hid (∀ W, Bks W Ar r.bl.length r.bl → Bks W Ay y.bl.length y.bl → Calls Try.prog 19 #[.agg #[.int .i64 r.fp, .int .i64 r.tp, .int .i64 r.sq, .int .i64 r.ack, .bool r.syn, .bool r.fin, .bool r.rst, .bool r.ha, .int .i64 r.win, .int .i64 r.mss, .bool r.sacks, .slice Ar r.bl.length cr, .string r.s], .agg #[.int .i64 y.fp, .int .i64 y.tp, .int .i64 y.sq, .int .i64 y.ack, .bool y.syn, .bool y.fin, .bool y.rst, .bool y.ha, .int .i64 y.win, .int .i64 y.mss, .bool y.sacks, .slice Ay y.bl.length cy, .string y.s]] W fun e' w' => e' = .returned (.bool s2) ∧ Below W.heap.size W w') := Lib.hid fun W h1 h2 => hs2 ▸ rsame_any r y Ar Ay cr cy W hrn h1 h2
          have HL : Hid (∀ W, Calls Try.prog 20 #[.agg #[.int .i64 y.fp, .int .i64 y.tp, .int .i64 y.sq, .int .i64 y.ack, .bool y.syn, .bool y.fin, .bool y.rst, .bool y.ha, .int .i64 y.win, .int .i64 y.mss, .bool y.sacks, .slice Ay y.bl.length cy, .string y.s]] W fun e' w' => e' = .returned (.int .i64 n1) ∧ Below W.heap.size W w') := Lib.hid fun W => hn1 ▸ len_any y.fp y.tp y.sq y.ack y.syn y.fin y.rst y.ha y.win y.mss y.sacks Ay y.bl.length cy y.s W (by omega)
          have HRL : Hid (∀ W, Calls Try.prog 21 #[.agg #[.int .i64 y.fp, .int .i64 y.tp, .int .i64 y.sq, .int .i64 y.ack, .bool y.syn, .bool y.fin, .bool y.rst, .bool y.ha, .int .i64 y.win, .int .i64 y.mss, .bool y.sacks, .slice Ay y.bl.length cy, .string y.s]] W fun e' w' => e' = .returned (.int .i64 n1) ∧ Below W.heap.size W w') := Lib.hid fun W => hn1 ▸ rlen_any y.fp y.tp y.sq y.ack y.syn y.fin y.rst y.ha y.win y.mss y.sacks Ay y.bl.length cy y.s W (by omega)
          clear hbv hs1 hs2 hn1
          have Sy := cells13 Hy.out
          obtain ⟨⟨qy0, qy1, qy2, qy3, qy4, qy5, qy6, qy7, qy8, qy9, qy10, qy11, qy12⟩, zy0, zy1, zy2, zy3, zy4, zy5, zy6, zy7, zy8, zy9, zy10, zy11, zy12⟩ := Sy
          have lt_y := blk_lt Hy.out
          go_wp2_with fail
          refine (HE.out _ Hybk.out).mono ?_
          rintro e w21 ⟨rfl, hb⟩
          clear qy0 zy0 qy1 zy1 qy2 zy2 qy3 zy3 qy4 zy4 qy5 zy5 qy6 zy6 qy7 zy7 qy8 zy8 qy9 zy9 qy10 zy10 qy11 zy11 qy12 zy12
          have Hy' := Lib.hid (bblock hb Hy.out); clear Hy; have Hy := Hy'; clear Hy'
          have Hu' := Lib.hid (bblock hb Hu.out); clear Hu; have Hu := Hu'; clear Hu'
          have Hr' := Lib.hid (bblock hb Hr.out); clear Hr; have Hr := Hr'; clear Hr'
          have Hybk' := Lib.hid (Hybk.out.below hb); clear Hybk; have Hybk := Hybk'; clear Hybk'
          have Hubk' := Lib.hid (Hubk.out.below hb); clear Hubk; have Hubk := Hubk'; clear Hubk'
          have Hrbk' := Lib.hid (Hrbk.out.below hb); clear Hrbk; have Hrbk := Hrbk'; clear Hrbk'
          have HB' := below_call HB hb; clear HB hb; have HB := HB'; clear HB'; have hz21 := HB.size
          have lt_y_21 := blk_lt Hy.out
          have lt_u_21 := blk_lt Hu.out
          have lt_r_21 := blk_lt Hr.out
          have Sy := cells13 Hy.out
          obtain ⟨⟨qy0, qy1, qy2, qy3, qy4, qy5, qy6, qy7, qy8, qy9, qy10, qy11, qy12⟩, zy0, zy1, zy2, zy3, zy4, zy5, zy6, zy7, zy8, zy9, zy10, zy11, zy12⟩ := Sy
          have lt_y := blk_lt Hy.out
          go_wp2_with fail
          refine (HRE.out _ Hybk.out).mono ?_
          rintro e w22 ⟨rfl, hb⟩
          clear qy0 zy0 qy1 zy1 qy2 zy2 qy3 zy3 qy4 zy4 qy5 zy5 qy6 zy6 qy7 zy7 qy8 zy8 qy9 zy9 qy10 zy10 qy11 zy11 qy12 zy12
          have Hy' := Lib.hid (bblock hb Hy.out); clear Hy; have Hy := Hy'; clear Hy'
          have Hu' := Lib.hid (bblock hb Hu.out); clear Hu; have Hu := Hu'; clear Hu'
          have Hr' := Lib.hid (bblock hb Hr.out); clear Hr; have Hr := Hr'; clear Hr'
          have Hybk' := Lib.hid (Hybk.out.below hb); clear Hybk; have Hybk := Hybk'; clear Hybk'
          have Hubk' := Lib.hid (Hubk.out.below hb); clear Hubk; have Hubk := Hubk'; clear Hubk'
          have Hrbk' := Lib.hid (Hrbk.out.below hb); clear Hrbk; have Hrbk := Hrbk'; clear Hrbk'
          have HB' := below_call HB hb; clear HB hb; have HB := HB'; clear HB'; have hz22 := HB.size
          have lt_y_22 := blk_lt Hy.out
          have lt_u_22 := blk_lt Hu.out
          have lt_r_22 := blk_lt Hr.out
          go_upto_region 23 with fail
          have HR := Below.refl w22.heap.size w22
          have gy0 : Hid (w22.cell? ⟨wo.heap.size, 0, none⟩ = some (.int .i64 y.fp)) := Lib.hid (cell_of_block (k := 0) Hy.out rfl).1
          have gy1 : Hid (w22.cell? ⟨wo.heap.size, 1, none⟩ = some (.int .i64 y.tp)) := Lib.hid (cell_of_block (k := 1) Hy.out rfl).1
          have gy2 : Hid (w22.cell? ⟨wo.heap.size, 2, none⟩ = some (.int .i64 y.sq)) := Lib.hid (cell_of_block (k := 2) Hy.out rfl).1
          have gy3 : Hid (w22.cell? ⟨wo.heap.size, 3, none⟩ = some (.int .i64 y.ack)) := Lib.hid (cell_of_block (k := 3) Hy.out rfl).1
          have gy4 : Hid (w22.cell? ⟨wo.heap.size, 4, none⟩ = some (.bool y.syn)) := Lib.hid (cell_of_block (k := 4) Hy.out rfl).1
          have gy5 : Hid (w22.cell? ⟨wo.heap.size, 5, none⟩ = some (.bool y.fin)) := Lib.hid (cell_of_block (k := 5) Hy.out rfl).1
          have gy6 : Hid (w22.cell? ⟨wo.heap.size, 6, none⟩ = some (.bool y.rst)) := Lib.hid (cell_of_block (k := 6) Hy.out rfl).1
          have gy7 : Hid (w22.cell? ⟨wo.heap.size, 7, none⟩ = some (.bool y.ha)) := Lib.hid (cell_of_block (k := 7) Hy.out rfl).1
          have gy8 : Hid (w22.cell? ⟨wo.heap.size, 8, none⟩ = some (.int .i64 y.win)) := Lib.hid (cell_of_block (k := 8) Hy.out rfl).1
          have gy9 : Hid (w22.cell? ⟨wo.heap.size, 9, none⟩ = some (.int .i64 y.mss)) := Lib.hid (cell_of_block (k := 9) Hy.out rfl).1
          have gy10 : Hid (w22.cell? ⟨wo.heap.size, 10, none⟩ = some (.bool y.sacks)) := Lib.hid (cell_of_block (k := 10) Hy.out rfl).1
          have gy11 : Hid (w22.cell? ⟨wo.heap.size, 11, none⟩ = some (.slice Ay y.bl.length cy)) := Lib.hid (cell_of_block (k := 11) Hy.out rfl).1
          have gy12 : Hid (w22.cell? ⟨wo.heap.size, 12, none⟩ = some (.string y.s)) := Lib.hid (cell_of_block (k := 12) Hy.out rfl).1
          have gu0 : Hid (w22.cell? ⟨w2.heap.size, 0, none⟩ = some (.int .i64 u.fp)) := Lib.hid (cell_of_block (k := 0) Hu.out rfl).1
          have gu1 : Hid (w22.cell? ⟨w2.heap.size, 1, none⟩ = some (.int .i64 u.tp)) := Lib.hid (cell_of_block (k := 1) Hu.out rfl).1
          have gu2 : Hid (w22.cell? ⟨w2.heap.size, 2, none⟩ = some (.int .i64 u.sq)) := Lib.hid (cell_of_block (k := 2) Hu.out rfl).1
          have gu3 : Hid (w22.cell? ⟨w2.heap.size, 3, none⟩ = some (.int .i64 u.ack)) := Lib.hid (cell_of_block (k := 3) Hu.out rfl).1
          have gu4 : Hid (w22.cell? ⟨w2.heap.size, 4, none⟩ = some (.bool u.syn)) := Lib.hid (cell_of_block (k := 4) Hu.out rfl).1
          have gu5 : Hid (w22.cell? ⟨w2.heap.size, 5, none⟩ = some (.bool u.fin)) := Lib.hid (cell_of_block (k := 5) Hu.out rfl).1
          have gu6 : Hid (w22.cell? ⟨w2.heap.size, 6, none⟩ = some (.bool u.rst)) := Lib.hid (cell_of_block (k := 6) Hu.out rfl).1
          have gu7 : Hid (w22.cell? ⟨w2.heap.size, 7, none⟩ = some (.bool u.ha)) := Lib.hid (cell_of_block (k := 7) Hu.out rfl).1
          have gu8 : Hid (w22.cell? ⟨w2.heap.size, 8, none⟩ = some (.int .i64 u.win)) := Lib.hid (cell_of_block (k := 8) Hu.out rfl).1
          have gu9 : Hid (w22.cell? ⟨w2.heap.size, 9, none⟩ = some (.int .i64 u.mss)) := Lib.hid (cell_of_block (k := 9) Hu.out rfl).1
          have gu10 : Hid (w22.cell? ⟨w2.heap.size, 10, none⟩ = some (.bool u.sacks)) := Lib.hid (cell_of_block (k := 10) Hu.out rfl).1
          have gu11 : Hid (w22.cell? ⟨w2.heap.size, 11, none⟩ = some (.slice Au u.bl.length cu)) := Lib.hid (cell_of_block (k := 11) Hu.out rfl).1
          have gu12 : Hid (w22.cell? ⟨w2.heap.size, 12, none⟩ = some (.string u.s)) := Lib.hid (cell_of_block (k := 12) Hu.out rfl).1
          have gr0 : Hid (w22.cell? ⟨w4.heap.size, 0, none⟩ = some (.int .i64 r.fp)) := Lib.hid (cell_of_block (k := 0) Hr.out rfl).1
          have gr1 : Hid (w22.cell? ⟨w4.heap.size, 1, none⟩ = some (.int .i64 r.tp)) := Lib.hid (cell_of_block (k := 1) Hr.out rfl).1
          have gr2 : Hid (w22.cell? ⟨w4.heap.size, 2, none⟩ = some (.int .i64 r.sq)) := Lib.hid (cell_of_block (k := 2) Hr.out rfl).1
          have gr3 : Hid (w22.cell? ⟨w4.heap.size, 3, none⟩ = some (.int .i64 r.ack)) := Lib.hid (cell_of_block (k := 3) Hr.out rfl).1
          have gr4 : Hid (w22.cell? ⟨w4.heap.size, 4, none⟩ = some (.bool r.syn)) := Lib.hid (cell_of_block (k := 4) Hr.out rfl).1
          have gr5 : Hid (w22.cell? ⟨w4.heap.size, 5, none⟩ = some (.bool r.fin)) := Lib.hid (cell_of_block (k := 5) Hr.out rfl).1
          have gr6 : Hid (w22.cell? ⟨w4.heap.size, 6, none⟩ = some (.bool r.rst)) := Lib.hid (cell_of_block (k := 6) Hr.out rfl).1
          have gr7 : Hid (w22.cell? ⟨w4.heap.size, 7, none⟩ = some (.bool r.ha)) := Lib.hid (cell_of_block (k := 7) Hr.out rfl).1
          have gr8 : Hid (w22.cell? ⟨w4.heap.size, 8, none⟩ = some (.int .i64 r.win)) := Lib.hid (cell_of_block (k := 8) Hr.out rfl).1
          have gr9 : Hid (w22.cell? ⟨w4.heap.size, 9, none⟩ = some (.int .i64 r.mss)) := Lib.hid (cell_of_block (k := 9) Hr.out rfl).1
          have gr10 : Hid (w22.cell? ⟨w4.heap.size, 10, none⟩ = some (.bool r.sacks)) := Lib.hid (cell_of_block (k := 10) Hr.out rfl).1
          have gr11 : Hid (w22.cell? ⟨w4.heap.size, 11, none⟩ = some (.slice Ar r.bl.length cr)) := Lib.hid (cell_of_block (k := 11) Hr.out rfl).1
          have gr12 : Hid (w22.cell? ⟨w4.heap.size, 12, none⟩ = some (.string r.s)) := Lib.hid (cell_of_block (k := 12) Hr.out rfl).1
          go_region_held3 (fun w' => w'.cell? ⟨wo.heap.size, 0, none⟩ = some (.int .i64 y.fp) ∧ w'.cell? ⟨wo.heap.size, 1, none⟩ = some (.int .i64 y.tp) ∧ w'.cell? ⟨wo.heap.size, 2, none⟩ = some (.int .i64 y.sq) ∧ w'.cell? ⟨wo.heap.size, 3, none⟩ = some (.int .i64 y.ack) ∧ w'.cell? ⟨wo.heap.size, 4, none⟩ = some (.bool y.syn) ∧ w'.cell? ⟨wo.heap.size, 5, none⟩ = some (.bool y.fin) ∧ w'.cell? ⟨wo.heap.size, 6, none⟩ = some (.bool y.rst) ∧ w'.cell? ⟨wo.heap.size, 7, none⟩ = some (.bool y.ha) ∧ w'.cell? ⟨wo.heap.size, 8, none⟩ = some (.int .i64 y.win) ∧ w'.cell? ⟨wo.heap.size, 9, none⟩ = some (.int .i64 y.mss) ∧ w'.cell? ⟨wo.heap.size, 10, none⟩ = some (.bool y.sacks) ∧ w'.cell? ⟨wo.heap.size, 11, none⟩ = some (.slice Ay y.bl.length cy) ∧ w'.cell? ⟨wo.heap.size, 12, none⟩ = some (.string y.s) ∧ w'.cell? ⟨w2.heap.size, 0, none⟩ = some (.int .i64 u.fp) ∧ w'.cell? ⟨w2.heap.size, 1, none⟩ = some (.int .i64 u.tp) ∧ w'.cell? ⟨w2.heap.size, 2, none⟩ = some (.int .i64 u.sq) ∧ w'.cell? ⟨w2.heap.size, 3, none⟩ = some (.int .i64 u.ack) ∧ w'.cell? ⟨w2.heap.size, 4, none⟩ = some (.bool u.syn) ∧ w'.cell? ⟨w2.heap.size, 5, none⟩ = some (.bool u.fin) ∧ w'.cell? ⟨w2.heap.size, 6, none⟩ = some (.bool u.rst) ∧ w'.cell? ⟨w2.heap.size, 7, none⟩ = some (.bool u.ha) ∧ w'.cell? ⟨w2.heap.size, 8, none⟩ = some (.int .i64 u.win) ∧ w'.cell? ⟨w2.heap.size, 9, none⟩ = some (.int .i64 u.mss) ∧ w'.cell? ⟨w2.heap.size, 10, none⟩ = some (.bool u.sacks) ∧ w'.cell? ⟨w2.heap.size, 11, none⟩ = some (.slice Au u.bl.length cu) ∧ w'.cell? ⟨w2.heap.size, 12, none⟩ = some (.string u.s) ∧ w'.cell? ⟨w4.heap.size, 0, none⟩ = some (.int .i64 r.fp) ∧ w'.cell? ⟨w4.heap.size, 1, none⟩ = some (.int .i64 r.tp) ∧ w'.cell? ⟨w4.heap.size, 2, none⟩ = some (.int .i64 r.sq) ∧ w'.cell? ⟨w4.heap.size, 3, none⟩ = some (.int .i64 r.ack) ∧ w'.cell? ⟨w4.heap.size, 4, none⟩ = some (.bool r.syn) ∧ w'.cell? ⟨w4.heap.size, 5, none⟩ = some (.bool r.fin) ∧ w'.cell? ⟨w4.heap.size, 6, none⟩ = some (.bool r.rst) ∧ w'.cell? ⟨w4.heap.size, 7, none⟩ = some (.bool r.ha) ∧ w'.cell? ⟨w4.heap.size, 8, none⟩ = some (.int .i64 r.win) ∧ w'.cell? ⟨w4.heap.size, 9, none⟩ = some (.int .i64 r.mss) ∧ w'.cell? ⟨w4.heap.size, 10, none⟩ = some (.bool r.sacks) ∧ w'.cell? ⟨w4.heap.size, 11, none⟩ = some (.slice Ar r.bl.length cr) ∧ w'.cell? ⟨w4.heap.size, 12, none⟩ = some (.string r.s) ∧ Below w22.heap.size w22 w') (first | with_reducible exact ⟨bcell (hRx8.out) gy0.out, bcell (hRx8.out) gy1.out, bcell (hRx8.out) gy2.out, bcell (hRx8.out) gy3.out, bcell (hRx8.out) gy4.out, bcell (hRx8.out) gy5.out, bcell (hRx8.out) gy6.out, bcell (hRx8.out) gy7.out, bcell (hRx8.out) gy8.out, bcell (hRx8.out) gy9.out, bcell (hRx8.out) gy10.out, bcell (hRx8.out) gy11.out, bcell (hRx8.out) gy12.out, bcell (hRx8.out) gu0.out, bcell (hRx8.out) gu1.out, bcell (hRx8.out) gu2.out, bcell (hRx8.out) gu3.out, bcell (hRx8.out) gu4.out, bcell (hRx8.out) gu5.out, bcell (hRx8.out) gu6.out, bcell (hRx8.out) gu7.out, bcell (hRx8.out) gu8.out, bcell (hRx8.out) gu9.out, bcell (hRx8.out) gu10.out, bcell (hRx8.out) gu11.out, bcell (hRx8.out) gu12.out, bcell (hRx8.out) gr0.out, bcell (hRx8.out) gr1.out, bcell (hRx8.out) gr2.out, bcell (hRx8.out) gr3.out, bcell (hRx8.out) gr4.out, bcell (hRx8.out) gr5.out, bcell (hRx8.out) gr6.out, bcell (hRx8.out) gr7.out, bcell (hRx8.out) gr8.out, bcell (hRx8.out) gr9.out, bcell (hRx8.out) gr10.out, bcell (hRx8.out) gr11.out, bcell (hRx8.out) gr12.out, hRx8.out⟩ | with_reducible exact ⟨bcell (hRx7.out) gy0.out, bcell (hRx7.out) gy1.out, bcell (hRx7.out) gy2.out, bcell (hRx7.out) gy3.out, bcell (hRx7.out) gy4.out, bcell (hRx7.out) gy5.out, bcell (hRx7.out) gy6.out, bcell (hRx7.out) gy7.out, bcell (hRx7.out) gy8.out, bcell (hRx7.out) gy9.out, bcell (hRx7.out) gy10.out, bcell (hRx7.out) gy11.out, bcell (hRx7.out) gy12.out, bcell (hRx7.out) gu0.out, bcell (hRx7.out) gu1.out, bcell (hRx7.out) gu2.out, bcell (hRx7.out) gu3.out, bcell (hRx7.out) gu4.out, bcell (hRx7.out) gu5.out, bcell (hRx7.out) gu6.out, bcell (hRx7.out) gu7.out, bcell (hRx7.out) gu8.out, bcell (hRx7.out) gu9.out, bcell (hRx7.out) gu10.out, bcell (hRx7.out) gu11.out, bcell (hRx7.out) gu12.out, bcell (hRx7.out) gr0.out, bcell (hRx7.out) gr1.out, bcell (hRx7.out) gr2.out, bcell (hRx7.out) gr3.out, bcell (hRx7.out) gr4.out, bcell (hRx7.out) gr5.out, bcell (hRx7.out) gr6.out, bcell (hRx7.out) gr7.out, bcell (hRx7.out) gr8.out, bcell (hRx7.out) gr9.out, bcell (hRx7.out) gr10.out, bcell (hRx7.out) gr11.out, bcell (hRx7.out) gr12.out, hRx7.out⟩ | with_reducible exact ⟨bcell (hRx6.out) gy0.out, bcell (hRx6.out) gy1.out, bcell (hRx6.out) gy2.out, bcell (hRx6.out) gy3.out, bcell (hRx6.out) gy4.out, bcell (hRx6.out) gy5.out, bcell (hRx6.out) gy6.out, bcell (hRx6.out) gy7.out, bcell (hRx6.out) gy8.out, bcell (hRx6.out) gy9.out, bcell (hRx6.out) gy10.out, bcell (hRx6.out) gy11.out, bcell (hRx6.out) gy12.out, bcell (hRx6.out) gu0.out, bcell (hRx6.out) gu1.out, bcell (hRx6.out) gu2.out, bcell (hRx6.out) gu3.out, bcell (hRx6.out) gu4.out, bcell (hRx6.out) gu5.out, bcell (hRx6.out) gu6.out, bcell (hRx6.out) gu7.out, bcell (hRx6.out) gu8.out, bcell (hRx6.out) gu9.out, bcell (hRx6.out) gu10.out, bcell (hRx6.out) gu11.out, bcell (hRx6.out) gu12.out, bcell (hRx6.out) gr0.out, bcell (hRx6.out) gr1.out, bcell (hRx6.out) gr2.out, bcell (hRx6.out) gr3.out, bcell (hRx6.out) gr4.out, bcell (hRx6.out) gr5.out, bcell (hRx6.out) gr6.out, bcell (hRx6.out) gr7.out, bcell (hRx6.out) gr8.out, bcell (hRx6.out) gr9.out, bcell (hRx6.out) gr10.out, bcell (hRx6.out) gr11.out, bcell (hRx6.out) gr12.out, hRx6.out⟩ | with_reducible exact ⟨bcell (hRx5.out) gy0.out, bcell (hRx5.out) gy1.out, bcell (hRx5.out) gy2.out, bcell (hRx5.out) gy3.out, bcell (hRx5.out) gy4.out, bcell (hRx5.out) gy5.out, bcell (hRx5.out) gy6.out, bcell (hRx5.out) gy7.out, bcell (hRx5.out) gy8.out, bcell (hRx5.out) gy9.out, bcell (hRx5.out) gy10.out, bcell (hRx5.out) gy11.out, bcell (hRx5.out) gy12.out, bcell (hRx5.out) gu0.out, bcell (hRx5.out) gu1.out, bcell (hRx5.out) gu2.out, bcell (hRx5.out) gu3.out, bcell (hRx5.out) gu4.out, bcell (hRx5.out) gu5.out, bcell (hRx5.out) gu6.out, bcell (hRx5.out) gu7.out, bcell (hRx5.out) gu8.out, bcell (hRx5.out) gu9.out, bcell (hRx5.out) gu10.out, bcell (hRx5.out) gu11.out, bcell (hRx5.out) gu12.out, bcell (hRx5.out) gr0.out, bcell (hRx5.out) gr1.out, bcell (hRx5.out) gr2.out, bcell (hRx5.out) gr3.out, bcell (hRx5.out) gr4.out, bcell (hRx5.out) gr5.out, bcell (hRx5.out) gr6.out, bcell (hRx5.out) gr7.out, bcell (hRx5.out) gr8.out, bcell (hRx5.out) gr9.out, bcell (hRx5.out) gr10.out, bcell (hRx5.out) gr11.out, bcell (hRx5.out) gr12.out, hRx5.out⟩ | with_reducible exact ⟨bcell (hRx4.out) gy0.out, bcell (hRx4.out) gy1.out, bcell (hRx4.out) gy2.out, bcell (hRx4.out) gy3.out, bcell (hRx4.out) gy4.out, bcell (hRx4.out) gy5.out, bcell (hRx4.out) gy6.out, bcell (hRx4.out) gy7.out, bcell (hRx4.out) gy8.out, bcell (hRx4.out) gy9.out, bcell (hRx4.out) gy10.out, bcell (hRx4.out) gy11.out, bcell (hRx4.out) gy12.out, bcell (hRx4.out) gu0.out, bcell (hRx4.out) gu1.out, bcell (hRx4.out) gu2.out, bcell (hRx4.out) gu3.out, bcell (hRx4.out) gu4.out, bcell (hRx4.out) gu5.out, bcell (hRx4.out) gu6.out, bcell (hRx4.out) gu7.out, bcell (hRx4.out) gu8.out, bcell (hRx4.out) gu9.out, bcell (hRx4.out) gu10.out, bcell (hRx4.out) gu11.out, bcell (hRx4.out) gu12.out, bcell (hRx4.out) gr0.out, bcell (hRx4.out) gr1.out, bcell (hRx4.out) gr2.out, bcell (hRx4.out) gr3.out, bcell (hRx4.out) gr4.out, bcell (hRx4.out) gr5.out, bcell (hRx4.out) gr6.out, bcell (hRx4.out) gr7.out, bcell (hRx4.out) gr8.out, bcell (hRx4.out) gr9.out, bcell (hRx4.out) gr10.out, bcell (hRx4.out) gr11.out, bcell (hRx4.out) gr12.out, hRx4.out⟩ | with_reducible exact ⟨bcell (hRx3.out) gy0.out, bcell (hRx3.out) gy1.out, bcell (hRx3.out) gy2.out, bcell (hRx3.out) gy3.out, bcell (hRx3.out) gy4.out, bcell (hRx3.out) gy5.out, bcell (hRx3.out) gy6.out, bcell (hRx3.out) gy7.out, bcell (hRx3.out) gy8.out, bcell (hRx3.out) gy9.out, bcell (hRx3.out) gy10.out, bcell (hRx3.out) gy11.out, bcell (hRx3.out) gy12.out, bcell (hRx3.out) gu0.out, bcell (hRx3.out) gu1.out, bcell (hRx3.out) gu2.out, bcell (hRx3.out) gu3.out, bcell (hRx3.out) gu4.out, bcell (hRx3.out) gu5.out, bcell (hRx3.out) gu6.out, bcell (hRx3.out) gu7.out, bcell (hRx3.out) gu8.out, bcell (hRx3.out) gu9.out, bcell (hRx3.out) gu10.out, bcell (hRx3.out) gu11.out, bcell (hRx3.out) gu12.out, bcell (hRx3.out) gr0.out, bcell (hRx3.out) gr1.out, bcell (hRx3.out) gr2.out, bcell (hRx3.out) gr3.out, bcell (hRx3.out) gr4.out, bcell (hRx3.out) gr5.out, bcell (hRx3.out) gr6.out, bcell (hRx3.out) gr7.out, bcell (hRx3.out) gr8.out, bcell (hRx3.out) gr9.out, bcell (hRx3.out) gr10.out, bcell (hRx3.out) gr11.out, bcell (hRx3.out) gr12.out, hRx3.out⟩ | with_reducible exact ⟨bcell (hRx2.out) gy0.out, bcell (hRx2.out) gy1.out, bcell (hRx2.out) gy2.out, bcell (hRx2.out) gy3.out, bcell (hRx2.out) gy4.out, bcell (hRx2.out) gy5.out, bcell (hRx2.out) gy6.out, bcell (hRx2.out) gy7.out, bcell (hRx2.out) gy8.out, bcell (hRx2.out) gy9.out, bcell (hRx2.out) gy10.out, bcell (hRx2.out) gy11.out, bcell (hRx2.out) gy12.out, bcell (hRx2.out) gu0.out, bcell (hRx2.out) gu1.out, bcell (hRx2.out) gu2.out, bcell (hRx2.out) gu3.out, bcell (hRx2.out) gu4.out, bcell (hRx2.out) gu5.out, bcell (hRx2.out) gu6.out, bcell (hRx2.out) gu7.out, bcell (hRx2.out) gu8.out, bcell (hRx2.out) gu9.out, bcell (hRx2.out) gu10.out, bcell (hRx2.out) gu11.out, bcell (hRx2.out) gu12.out, bcell (hRx2.out) gr0.out, bcell (hRx2.out) gr1.out, bcell (hRx2.out) gr2.out, bcell (hRx2.out) gr3.out, bcell (hRx2.out) gr4.out, bcell (hRx2.out) gr5.out, bcell (hRx2.out) gr6.out, bcell (hRx2.out) gr7.out, bcell (hRx2.out) gr8.out, bcell (hRx2.out) gr9.out, bcell (hRx2.out) gr10.out, bcell (hRx2.out) gr11.out, bcell (hRx2.out) gr12.out, hRx2.out⟩ | with_reducible exact ⟨bcell (hRx1.out) gy0.out, bcell (hRx1.out) gy1.out, bcell (hRx1.out) gy2.out, bcell (hRx1.out) gy3.out, bcell (hRx1.out) gy4.out, bcell (hRx1.out) gy5.out, bcell (hRx1.out) gy6.out, bcell (hRx1.out) gy7.out, bcell (hRx1.out) gy8.out, bcell (hRx1.out) gy9.out, bcell (hRx1.out) gy10.out, bcell (hRx1.out) gy11.out, bcell (hRx1.out) gy12.out, bcell (hRx1.out) gu0.out, bcell (hRx1.out) gu1.out, bcell (hRx1.out) gu2.out, bcell (hRx1.out) gu3.out, bcell (hRx1.out) gu4.out, bcell (hRx1.out) gu5.out, bcell (hRx1.out) gu6.out, bcell (hRx1.out) gu7.out, bcell (hRx1.out) gu8.out, bcell (hRx1.out) gu9.out, bcell (hRx1.out) gu10.out, bcell (hRx1.out) gu11.out, bcell (hRx1.out) gu12.out, bcell (hRx1.out) gr0.out, bcell (hRx1.out) gr1.out, bcell (hRx1.out) gr2.out, bcell (hRx1.out) gr3.out, bcell (hRx1.out) gr4.out, bcell (hRx1.out) gr5.out, bcell (hRx1.out) gr6.out, bcell (hRx1.out) gr7.out, bcell (hRx1.out) gr8.out, bcell (hRx1.out) gr9.out, bcell (hRx1.out) gr10.out, bcell (hRx1.out) gr11.out, bcell (hRx1.out) gr12.out, hRx1.out⟩ | exact ⟨gy0.out, gy1.out, gy2.out, gy3.out, gy4.out, gy5.out, gy6.out, gy7.out, gy8.out, gy9.out, gy10.out, gy11.out, gy12.out, gu0.out, gu1.out, gu2.out, gu3.out, gu4.out, gu5.out, gu6.out, gu7.out, gu8.out, gu9.out, gu10.out, gu11.out, gu12.out, gr0.out, gr1.out, gr2.out, gr3.out, gr4.out, gr5.out, gr6.out, gr7.out, gr8.out, gr9.out, gr10.out, gr11.out, gr12.out, HR.drew⟩)
            (first | (go_at_call 21; have _t := hRx7; clear _t; refine (HRL.out _).mono ?_; rintro e x8 ⟨rfl, hbx8⟩; have hRx8 := Lib.hid (below_call hRx7.out hbx8)) | (go_at_call 20; have _t := hRx6; clear _t; refine (HL.out _).mono ?_; rintro e x7 ⟨rfl, hbx7⟩; have hRx7 := Lib.hid (below_call hRx6.out hbx7)) | (go_at_call 19; have _t := hRx5; clear _t; refine (HRS2.out _ (Hrbk.out.below (hRx5.out)) (Hybk.out.below (hRx5.out))).mono ?_; rintro e x6 ⟨rfl, hbx6⟩; have hRx6 := Lib.hid (below_call hRx5.out hbx6)) | (go_at_call 18; have _t := hRx4; clear _t; refine (HS2.out _ (Hrbk.out.below (hRx4.out)) (Hybk.out.below (hRx4.out))).mono ?_; rintro e x5 ⟨rfl, hbx5⟩; have hRx5 := Lib.hid (below_call hRx4.out hbx5)) | (go_at_call 19; have _t := hRx3; clear _t; refine (HRS1.out _ (Hybk.out.below (hRx3.out)) (Hubk.out.below (hRx3.out))).mono ?_; rintro e x4 ⟨rfl, hbx4⟩; have hRx4 := Lib.hid (below_call hRx3.out hbx4)) | (go_at_call 18; have _t := hRx2; clear _t; refine (HS1.out _ (Hybk.out.below (hRx2.out)) (Hubk.out.below (hRx2.out))).mono ?_; rintro e x3 ⟨rfl, hbx3⟩; have hRx3 := Lib.hid (below_call hRx2.out hbx3)) | (go_at_call 17; have _t := hRx1; clear _t; refine (HRV.out _ (Hybk.out.below (hRx1.out))).mono ?_; rintro e x2 ⟨rfl, hbx2⟩; have hRx2 := Lib.hid (below_call hRx1.out hbx2)) | (go_at_call 16; refine (HV.out _ (Hybk.out.below (HR.drew))).mono ?_; rintro e x1 ⟨rfl, hbx1⟩; have hRx1 := Lib.hid (below_call HR.drew hbx1)))
          have hb := hRx8.out
          clear HR hRx1 hbx1 hRx2 hbx2 hRx3 hbx3 hRx4 hbx4 hRx5 hbx5 hRx6 hbx6 hRx7 hbx7 hRx8 hbx8 gy0 gy1 gy2 gy3 gy4 gy5 gy6 gy7 gy8 gy9 gy10 gy11 gy12 gu0 gu1 gu2 gu3 gu4 gu5 gu6 gu7 gu8 gu9 gu10 gu11 gu12 gr0 gr1 gr2 gr3 gr4 gr5 gr6 gr7 gr8 gr9 gr10 gr11 gr12
          have Hy' := Lib.hid (bblock hb Hy.out); clear Hy; have Hy := Hy'; clear Hy'
          have Hu' := Lib.hid (bblock hb Hu.out); clear Hu; have Hu := Hu'; clear Hu'
          have Hr' := Lib.hid (bblock hb Hr.out); clear Hr; have Hr := Hr'; clear Hr'
          have Hybk' := Lib.hid (Hybk.out.below hb); clear Hybk; have Hybk := Hybk'; clear Hybk'
          have Hubk' := Lib.hid (Hubk.out.below hb); clear Hubk; have Hubk := Hubk'; clear Hubk'
          have Hrbk' := Lib.hid (Hrbk.out.below hb); clear Hrbk; have Hrbk := Hrbk'; clear Hrbk'
          have HB' := below_call HB hb; clear HB hb; have HB := HB'; clear HB'; have hz := HB.size
          go_wp2_with fail
          go_roundw
          case rel => exact ⟨k + 1, by omega, by go_num, below_call HBx.out HB⟩
          case measure => simp [intOf]; omega
    · go_wp2_with fail
      go_ret
      exact ⟨rfl, below_call HB HR⟩
end Go.Proofs.Ytkinlmanimdlcaa.Sg
