/-
  The walk of the law SegmentRoundTrip of chapter 11.
-/
import Derived.Test.YtkinlmanimdlcaaSgArg
import Derived.Test.YtkinlmanimdlcaaSgEx
import Derived.Deep.RegionHeld3
import Derived.Deep.QuietTactic
namespace Go.Proofs.Ytkinlmanimdlcaa.Sg
open Go.RowKit Go.Proofs.Ytkinlmanimdlcaa.Wire

theorem enc_same (p q : Int) (u v : Seg) (hu : u.ok) (hv : v.ok) : (u.enc p q == v.enc p q) = sameB u v := by
  by_cases h : u = v
  · subst h; rw [(sameB_iff u u).2 rfl]; simp
  · have : sameB u v = false := by
      cases hs : sameB u v with
      | false => rfl
      | true => exact absurd ((sameB_iff u v).1 hs) h
    rw [this, beq_eq_false_iff_ne]
    exact fun e => h (enc_injS p q u v hu hv e)
theorem dec_back (p q : Int) (u : Seg) (w : World) (hp : Adr p) (hq : Adr q) (hu : u.ok) :
    Calls Try.prog 22 #[.int .i64 p, .int .i64 q, .string ⟨(u.enc p q).toArray⟩] w fun e w' => (∃ (A : Option Addr) (c : Nat), e = .returned (.tuple #[.agg #[.int .i64 u.fp, .int .i64 u.tp, .int .i64 u.sq, .int .i64 u.ack, .bool u.syn, .bool u.fin, .bool u.rst, .bool u.ha, .int .i64 u.win, .int .i64 u.mss, .bool u.sacks, .slice A u.bl.length c, .string u.s], .int .i64 0]) ∧ Bks w' A u.bl.length u.bl) ∧ Below w.heap.size w w' := by
  refine (Dec_yes p q ⟨(u.enc p q).toArray⟩ w (by rw [sz]; have := enc_le p q u hu; omega) hp hq (enc_decOk p q u hu)).mono ?_
  rintro e w' ⟨A, c, rfl, hb, hB⟩
  rw [(dec_enc p q u hu).1] at hb ⊢
  exact ⟨⟨A, c, rfl, hb⟩, hB⟩
set_option maxRecDepth 100000 in
set_option maxHeartbeats 40000000 in
theorem law24_any (xfp xtp xsq xack : Int) (xsyn xfin xrst xha : Bool) (xwin xmss : Int) (xsacks : Bool) (xA : Option Addr) (xn xc : Nat) (xbl : List (Int × Int)) (xs : ByteArray) (yfp ytp ysq yack : Int) (ysyn yfin yrst yha : Bool) (ywin ymss : Int) (ysacks : Bool) (yA : Option Addr) (yn yc : Nat) (ybl : List (Int × Int)) (ys : ByteArray) (k0 k1 from_ to_ : Int) (w : World) (hx : In64 xfp ∧ In64 xtp ∧ In64 xsq ∧ In64 xack ∧ In64 xwin ∧ In64 xmss) (hAx : ArgB w xA xn xc xbl) (hy : In64 yfp ∧ In64 ytp ∧ In64 ysq ∧ In64 yack ∧ In64 ywin ∧ In64 ymss) (hAy : ArgB w yA yn yc ybl) (hk0 : In64 k0) (hk1 : In64 k1) (hf : In64 from_) (ht : In64 to_) :
    Calls Try.prog 5 #[.agg #[.int .i64 xfp, .int .i64 xtp, .int .i64 xsq, .int .i64 xack, .bool xsyn, .bool xfin, .bool xrst, .bool xha, .int .i64 xwin, .int .i64 xmss, .bool xsacks, .slice xA xn xc, .string xs], .agg #[.int .i64 yfp, .int .i64 ytp, .int .i64 ysq, .int .i64 yack, .bool ysyn, .bool yfin, .bool yrst, .bool yha, .int .i64 ywin, .int .i64 ymss, .bool ysacks, .slice yA yn yc, .string ys], .agg #[.int .i64 k0, .int .i64 k1], .int .i64 from_, .int .i64 to_] w fun e w' => e = .returned (.bool true) ∧ Below w.heap.size w w' := by
  have HCx := Lib.hid fun W (hA : ArgB W xA xn xc xbl) => cut_any xfp xtp xsq xack xsyn xfin xrst xha xwin xmss xsacks xA xn xc xbl xs W hx.1 hx.2.1 hx.2.2.1 hx.2.2.2.1 hx.2.2.2.2.1 hx.2.2.2.2.2 hA
  have HCy := Lib.hid fun W (hA : ArgB W yA yn yc ybl) => cut_any yfp ytp ysq yack ysyn yfin yrst yha ywin ymss ysacks yA yn yc ybl ys W hy.1 hy.2.1 hy.2.2.1 hy.2.2.2.1 hy.2.2.2.2.1 hy.2.2.2.2.2 hA
  have HS0 := Lib.hid fun x A c W (hx : Seg.raw x) hb => segOf_lit x A c k0 W hx hk0 hb
  have HS1 := Lib.hid fun x A c W (hx : Seg.raw x) hb => segOf_lit x A c k1 W hx hk1 hb
  have hp := pick_lt from_ 4294967296 (by omega)
  have hq := pick_lt to_ 4294967296 (by omega)
  have HP := Lib.hid fun W => pick_any from_ 4294967296 W hf.1 hf.2 (by omega) (by omega)
  have HQ := Lib.hid fun W => pick_any to_ 4294967296 W ht.1 ht.2 (by omega) (by omega)
  generalize pick from_ 4294967296 = p at *
  generalize pick to_ 4294967296 = q at *
  obtain ⟨hp0, hp1⟩ := hp
  obtain ⟨hq0, hq1⟩ := hq
  clear hx hy hk0 hk1 hf ht
  have HAx := Lib.hid hAx; have HAy := Lib.hid hAy; clear hAx hAy
  have HB := Below.refl w.heap.size w
  have Hx := Lib.hid (alloc_new' w (.cells #[.int .i64 xfp, .int .i64 xtp, .int .i64 xsq, .int .i64 xack, .bool xsyn, .bool xfin, .bool xrst, .bool xha, .int .i64 xwin, .int .i64 xmss, .bool xsacks, .slice xA xn xc, .string xs] 24) (w.heap.size) (by simp))
  have HB' := below_alloc (o := .cells #[.int .i64 xfp, .int .i64 xtp, .int .i64 xsq, .int .i64 xack, .bool xsyn, .bool xfin, .bool xrst, .bool xha, .int .i64 xwin, .int .i64 xmss, .bool xsacks, .slice xA xn xc, .string xs] 24) HB; clear HB; have HB := HB'; clear HB'
  have Hy := Lib.hid (alloc_new' (w.alloc (.cells #[.int .i64 xfp, .int .i64 xtp, .int .i64 xsq, .int .i64 xack, .bool xsyn, .bool xfin, .bool xrst, .bool xha, .int .i64 xwin, .int .i64 xmss, .bool xsacks, .slice xA xn xc, .string xs] 24)) (.cells #[.int .i64 yfp, .int .i64 ytp, .int .i64 ysq, .int .i64 yack, .bool ysyn, .bool yfin, .bool yrst, .bool yha, .int .i64 ywin, .int .i64 ymss, .bool ysacks, .slice yA yn yc, .string ys] 24) (w.heap.size + 1) (by simp))
  have Hx' := Lib.hid (block_alloc Hx.out (.cells #[.int .i64 yfp, .int .i64 ytp, .int .i64 ysq, .int .i64 yack, .bool ysyn, .bool yfin, .bool yrst, .bool yha, .int .i64 ywin, .int .i64 ymss, .bool ysacks, .slice yA yn yc, .string ys] 24)); clear Hx; have Hx := Hx'; clear Hx'
  have HB' := below_alloc (o := .cells #[.int .i64 yfp, .int .i64 ytp, .int .i64 ysq, .int .i64 yack, .bool ysyn, .bool yfin, .bool yrst, .bool yha, .int .i64 ywin, .int .i64 ymss, .bool ysacks, .slice yA yn yc, .string ys] 24) HB; clear HB; have HB := HB'; clear HB'
  have Hk := Lib.hid (alloc_new' ((w.alloc (.cells #[.int .i64 xfp, .int .i64 xtp, .int .i64 xsq, .int .i64 xack, .bool xsyn, .bool xfin, .bool xrst, .bool xha, .int .i64 xwin, .int .i64 xmss, .bool xsacks, .slice xA xn xc, .string xs] 24)).alloc (.cells #[.int .i64 yfp, .int .i64 ytp, .int .i64 ysq, .int .i64 yack, .bool ysyn, .bool yfin, .bool yrst, .bool yha, .int .i64 ywin, .int .i64 ymss, .bool ysacks, .slice yA yn yc, .string ys] 24)) (.cells #[.int .i64 k0, .int .i64 k1] 40) (w.heap.size + 1 + 1) (by simp))
  have Hx' := Lib.hid (block_alloc Hx.out (.cells #[.int .i64 k0, .int .i64 k1] 40)); clear Hx; have Hx := Hx'; clear Hx'
  have Hy' := Lib.hid (block_alloc Hy.out (.cells #[.int .i64 k0, .int .i64 k1] 40)); clear Hy; have Hy := Hy'; clear Hy'
  have HB' := below_alloc (o := .cells #[.int .i64 k0, .int .i64 k1] 40) HB; clear HB; have HB := HB'; clear HB'
  go_enter Try.func5, Try.ntmps5
  go_wp2_with fail
  refine (examples_any _).mono ?_
  rintro e w1 ⟨rfl, hb⟩
  have Hx' := Lib.hid (bblock hb Hx.out); clear Hx; have Hx := Hx'; clear Hx'
  have Hy' := Lib.hid (bblock hb Hy.out); clear Hy; have Hy := Hy'; clear Hy'
  have Hk' := Lib.hid (bblock hb Hk.out); clear Hk; have Hk := Hk'; clear Hk'
  have HB' := below_call HB hb; clear HB hb; have HB := HB'; clear HB'; have hz1 := HB.size
  have lt_x_1 := blk_lt Hx.out
  have lt_y_1 := blk_lt Hy.out
  have lt_k_1 := blk_lt Hk.out
  go_upto_region 4 with fail
  go_cut [12] (fun s12 wz => ∃ (B : Nat) (u : Seg) (A : Option Addr) (c : Nat), s12 = .pointer (some ⟨B, 0, none⟩) ∧ u.ok ∧ wz.heap[B]? = some (.cells #[.int .i64 u.fp, .int .i64 u.tp, .int .i64 u.sq, .int .i64 u.ack, .bool u.syn, .bool u.fin, .bool u.rst, .bool u.ha, .int .i64 u.win, .int .i64 u.mss, .bool u.sacks, .slice A u.bl.length c, .string u.s] 24 (0, 0)) ∧ Bks wz A u.bl.length u.bl ∧ Below w1.heap.size w1 wz ∧ w1.heap.size ≤ B)
  case first =>
    have HR := Below.refl w1.heap.size w1
    have gx0 : Hid (w1.cell? ⟨w.heap.size, 0, none⟩ = some (.int .i64 xfp)) := Lib.hid (cell_of_block (k := 0) Hx.out rfl).1
    have gx1 : Hid (w1.cell? ⟨w.heap.size, 1, none⟩ = some (.int .i64 xtp)) := Lib.hid (cell_of_block (k := 1) Hx.out rfl).1
    have gx2 : Hid (w1.cell? ⟨w.heap.size, 2, none⟩ = some (.int .i64 xsq)) := Lib.hid (cell_of_block (k := 2) Hx.out rfl).1
    have gx3 : Hid (w1.cell? ⟨w.heap.size, 3, none⟩ = some (.int .i64 xack)) := Lib.hid (cell_of_block (k := 3) Hx.out rfl).1
    have gx4 : Hid (w1.cell? ⟨w.heap.size, 4, none⟩ = some (.bool xsyn)) := Lib.hid (cell_of_block (k := 4) Hx.out rfl).1
    have gx5 : Hid (w1.cell? ⟨w.heap.size, 5, none⟩ = some (.bool xfin)) := Lib.hid (cell_of_block (k := 5) Hx.out rfl).1
    have gx6 : Hid (w1.cell? ⟨w.heap.size, 6, none⟩ = some (.bool xrst)) := Lib.hid (cell_of_block (k := 6) Hx.out rfl).1
    have gx7 : Hid (w1.cell? ⟨w.heap.size, 7, none⟩ = some (.bool xha)) := Lib.hid (cell_of_block (k := 7) Hx.out rfl).1
    have gx8 : Hid (w1.cell? ⟨w.heap.size, 8, none⟩ = some (.int .i64 xwin)) := Lib.hid (cell_of_block (k := 8) Hx.out rfl).1
    have gx9 : Hid (w1.cell? ⟨w.heap.size, 9, none⟩ = some (.int .i64 xmss)) := Lib.hid (cell_of_block (k := 9) Hx.out rfl).1
    have gx10 : Hid (w1.cell? ⟨w.heap.size, 10, none⟩ = some (.bool xsacks)) := Lib.hid (cell_of_block (k := 10) Hx.out rfl).1
    have gx11 : Hid (w1.cell? ⟨w.heap.size, 11, none⟩ = some (.slice xA xn xc)) := Lib.hid (cell_of_block (k := 11) Hx.out rfl).1
    have gx12 : Hid (w1.cell? ⟨w.heap.size, 12, none⟩ = some (.string xs)) := Lib.hid (cell_of_block (k := 12) Hx.out rfl).1
    have gk0 : Hid (w1.cell? ⟨w.heap.size + 1 + 1, 0, none⟩ = some (.int .i64 k0)) := Lib.hid (cell_of_block (k := 0) Hk.out rfl).1
    have gk1 : Hid (w1.cell? ⟨w.heap.size + 1 + 1, 1, none⟩ = some (.int .i64 k1)) := Lib.hid (cell_of_block (k := 1) Hk.out rfl).1
    go_region_held3 (fun w' => w'.cell? ⟨w.heap.size, 0, none⟩ = some (.int .i64 xfp) ∧ w'.cell? ⟨w.heap.size, 1, none⟩ = some (.int .i64 xtp) ∧ w'.cell? ⟨w.heap.size, 2, none⟩ = some (.int .i64 xsq) ∧ w'.cell? ⟨w.heap.size, 3, none⟩ = some (.int .i64 xack) ∧ w'.cell? ⟨w.heap.size, 4, none⟩ = some (.bool xsyn) ∧ w'.cell? ⟨w.heap.size, 5, none⟩ = some (.bool xfin) ∧ w'.cell? ⟨w.heap.size, 6, none⟩ = some (.bool xrst) ∧ w'.cell? ⟨w.heap.size, 7, none⟩ = some (.bool xha) ∧ w'.cell? ⟨w.heap.size, 8, none⟩ = some (.int .i64 xwin) ∧ w'.cell? ⟨w.heap.size, 9, none⟩ = some (.int .i64 xmss) ∧ w'.cell? ⟨w.heap.size, 10, none⟩ = some (.bool xsacks) ∧ w'.cell? ⟨w.heap.size, 11, none⟩ = some (.slice xA xn xc) ∧ w'.cell? ⟨w.heap.size, 12, none⟩ = some (.string xs) ∧ w'.cell? ⟨w.heap.size + 1 + 1, 0, none⟩ = some (.int .i64 k0) ∧ w'.cell? ⟨w.heap.size + 1 + 1, 1, none⟩ = some (.int .i64 k1) ∧ Below w1.heap.size w1 w') (first | with_reducible exact ⟨bcell (hR3.out) gx0.out, bcell (hR3.out) gx1.out, bcell (hR3.out) gx2.out, bcell (hR3.out) gx3.out, bcell (hR3.out) gx4.out, bcell (hR3.out) gx5.out, bcell (hR3.out) gx6.out, bcell (hR3.out) gx7.out, bcell (hR3.out) gx8.out, bcell (hR3.out) gx9.out, bcell (hR3.out) gx10.out, bcell (hR3.out) gx11.out, bcell (hR3.out) gx12.out, bcell (hR3.out) gk0.out, bcell (hR3.out) gk1.out, hR3.out⟩ | with_reducible exact ⟨bcell (below_alloc hR3.out) gx0.out, bcell (below_alloc hR3.out) gx1.out, bcell (below_alloc hR3.out) gx2.out, bcell (below_alloc hR3.out) gx3.out, bcell (below_alloc hR3.out) gx4.out, bcell (below_alloc hR3.out) gx5.out, bcell (below_alloc hR3.out) gx6.out, bcell (below_alloc hR3.out) gx7.out, bcell (below_alloc hR3.out) gx8.out, bcell (below_alloc hR3.out) gx9.out, bcell (below_alloc hR3.out) gx10.out, bcell (below_alloc hR3.out) gx11.out, bcell (below_alloc hR3.out) gx12.out, bcell (below_alloc hR3.out) gk0.out, bcell (below_alloc hR3.out) gk1.out, below_alloc hR3.out⟩ | (have _t := hN; exact ⟨bcell (stN_below (Nat.le_refl _) [.int .i64 u.fp, .int .i64 u.tp, .int .i64 u.sq, .int .i64 u.ack, .bool u.syn, .bool u.fin, .bool u.rst, .bool u.ha, .int .i64 u.win, .int .i64 u.mss, .bool u.sacks, .slice A3 u.bl.length c3, .string u.s] v3 0 hR3.out) gx0.out, bcell (stN_below (Nat.le_refl _) [.int .i64 u.fp, .int .i64 u.tp, .int .i64 u.sq, .int .i64 u.ack, .bool u.syn, .bool u.fin, .bool u.rst, .bool u.ha, .int .i64 u.win, .int .i64 u.mss, .bool u.sacks, .slice A3 u.bl.length c3, .string u.s] v3 0 hR3.out) gx1.out, bcell (stN_below (Nat.le_refl _) [.int .i64 u.fp, .int .i64 u.tp, .int .i64 u.sq, .int .i64 u.ack, .bool u.syn, .bool u.fin, .bool u.rst, .bool u.ha, .int .i64 u.win, .int .i64 u.mss, .bool u.sacks, .slice A3 u.bl.length c3, .string u.s] v3 0 hR3.out) gx2.out, bcell (stN_below (Nat.le_refl _) [.int .i64 u.fp, .int .i64 u.tp, .int .i64 u.sq, .int .i64 u.ack, .bool u.syn, .bool u.fin, .bool u.rst, .bool u.ha, .int .i64 u.win, .int .i64 u.mss, .bool u.sacks, .slice A3 u.bl.length c3, .string u.s] v3 0 hR3.out) gx3.out, bcell (stN_below (Nat.le_refl _) [.int .i64 u.fp, .int .i64 u.tp, .int .i64 u.sq, .int .i64 u.ack, .bool u.syn, .bool u.fin, .bool u.rst, .bool u.ha, .int .i64 u.win, .int .i64 u.mss, .bool u.sacks, .slice A3 u.bl.length c3, .string u.s] v3 0 hR3.out) gx4.out, bcell (stN_below (Nat.le_refl _) [.int .i64 u.fp, .int .i64 u.tp, .int .i64 u.sq, .int .i64 u.ack, .bool u.syn, .bool u.fin, .bool u.rst, .bool u.ha, .int .i64 u.win, .int .i64 u.mss, .bool u.sacks, .slice A3 u.bl.length c3, .string u.s] v3 0 hR3.out) gx5.out, bcell (stN_below (Nat.le_refl _) [.int .i64 u.fp, .int .i64 u.tp, .int .i64 u.sq, .int .i64 u.ack, .bool u.syn, .bool u.fin, .bool u.rst, .bool u.ha, .int .i64 u.win, .int .i64 u.mss, .bool u.sacks, .slice A3 u.bl.length c3, .string u.s] v3 0 hR3.out) gx6.out, bcell (stN_below (Nat.le_refl _) [.int .i64 u.fp, .int .i64 u.tp, .int .i64 u.sq, .int .i64 u.ack, .bool u.syn, .bool u.fin, .bool u.rst, .bool u.ha, .int .i64 u.win, .int .i64 u.mss, .bool u.sacks, .slice A3 u.bl.length c3, .string u.s] v3 0 hR3.out) gx7.out, bcell (stN_below (Nat.le_refl _) [.int .i64 u.fp, .int .i64 u.tp, .int .i64 u.sq, .int .i64 u.ack, .bool u.syn, .bool u.fin, .bool u.rst, .bool u.ha, .int .i64 u.win, .int .i64 u.mss, .bool u.sacks, .slice A3 u.bl.length c3, .string u.s] v3 0 hR3.out) gx8.out, bcell (stN_below (Nat.le_refl _) [.int .i64 u.fp, .int .i64 u.tp, .int .i64 u.sq, .int .i64 u.ack, .bool u.syn, .bool u.fin, .bool u.rst, .bool u.ha, .int .i64 u.win, .int .i64 u.mss, .bool u.sacks, .slice A3 u.bl.length c3, .string u.s] v3 0 hR3.out) gx9.out, bcell (stN_below (Nat.le_refl _) [.int .i64 u.fp, .int .i64 u.tp, .int .i64 u.sq, .int .i64 u.ack, .bool u.syn, .bool u.fin, .bool u.rst, .bool u.ha, .int .i64 u.win, .int .i64 u.mss, .bool u.sacks, .slice A3 u.bl.length c3, .string u.s] v3 0 hR3.out) gx10.out, bcell (stN_below (Nat.le_refl _) [.int .i64 u.fp, .int .i64 u.tp, .int .i64 u.sq, .int .i64 u.ack, .bool u.syn, .bool u.fin, .bool u.rst, .bool u.ha, .int .i64 u.win, .int .i64 u.mss, .bool u.sacks, .slice A3 u.bl.length c3, .string u.s] v3 0 hR3.out) gx11.out, bcell (stN_below (Nat.le_refl _) [.int .i64 u.fp, .int .i64 u.tp, .int .i64 u.sq, .int .i64 u.ack, .bool u.syn, .bool u.fin, .bool u.rst, .bool u.ha, .int .i64 u.win, .int .i64 u.mss, .bool u.sacks, .slice A3 u.bl.length c3, .string u.s] v3 0 hR3.out) gx12.out, bcell (stN_below (Nat.le_refl _) [.int .i64 u.fp, .int .i64 u.tp, .int .i64 u.sq, .int .i64 u.ack, .bool u.syn, .bool u.fin, .bool u.rst, .bool u.ha, .int .i64 u.win, .int .i64 u.mss, .bool u.sacks, .slice A3 u.bl.length c3, .string u.s] v3 0 hR3.out) gk0.out, bcell (stN_below (Nat.le_refl _) [.int .i64 u.fp, .int .i64 u.tp, .int .i64 u.sq, .int .i64 u.ack, .bool u.syn, .bool u.fin, .bool u.rst, .bool u.ha, .int .i64 u.win, .int .i64 u.mss, .bool u.sacks, .slice A3 u.bl.length c3, .string u.s] v3 0 hR3.out) gk1.out, stN_below (Nat.le_refl _) [.int .i64 u.fp, .int .i64 u.tp, .int .i64 u.sq, .int .i64 u.ack, .bool u.syn, .bool u.fin, .bool u.rst, .bool u.ha, .int .i64 u.win, .int .i64 u.mss, .bool u.sacks, .slice A3 u.bl.length c3, .string u.s] v3 0 hR3.out⟩) | (have _t := hM; exact ⟨bcell (stN_below hR2.out.size [.int .i64 u.fp, .int .i64 u.tp, .int .i64 u.sq, .int .i64 u.ack, .bool u.syn, .bool u.fin, .bool u.rst, .bool u.ha, .int .i64 u.win, .int .i64 u.mss, .bool u.sacks, .slice A3 u.bl.length c3, .string u.s] v3 0 hR3.out) gx0.out, bcell (stN_below hR2.out.size [.int .i64 u.fp, .int .i64 u.tp, .int .i64 u.sq, .int .i64 u.ack, .bool u.syn, .bool u.fin, .bool u.rst, .bool u.ha, .int .i64 u.win, .int .i64 u.mss, .bool u.sacks, .slice A3 u.bl.length c3, .string u.s] v3 0 hR3.out) gx1.out, bcell (stN_below hR2.out.size [.int .i64 u.fp, .int .i64 u.tp, .int .i64 u.sq, .int .i64 u.ack, .bool u.syn, .bool u.fin, .bool u.rst, .bool u.ha, .int .i64 u.win, .int .i64 u.mss, .bool u.sacks, .slice A3 u.bl.length c3, .string u.s] v3 0 hR3.out) gx2.out, bcell (stN_below hR2.out.size [.int .i64 u.fp, .int .i64 u.tp, .int .i64 u.sq, .int .i64 u.ack, .bool u.syn, .bool u.fin, .bool u.rst, .bool u.ha, .int .i64 u.win, .int .i64 u.mss, .bool u.sacks, .slice A3 u.bl.length c3, .string u.s] v3 0 hR3.out) gx3.out, bcell (stN_below hR2.out.size [.int .i64 u.fp, .int .i64 u.tp, .int .i64 u.sq, .int .i64 u.ack, .bool u.syn, .bool u.fin, .bool u.rst, .bool u.ha, .int .i64 u.win, .int .i64 u.mss, .bool u.sacks, .slice A3 u.bl.length c3, .string u.s] v3 0 hR3.out) gx4.out, bcell (stN_below hR2.out.size [.int .i64 u.fp, .int .i64 u.tp, .int .i64 u.sq, .int .i64 u.ack, .bool u.syn, .bool u.fin, .bool u.rst, .bool u.ha, .int .i64 u.win, .int .i64 u.mss, .bool u.sacks, .slice A3 u.bl.length c3, .string u.s] v3 0 hR3.out) gx5.out, bcell (stN_below hR2.out.size [.int .i64 u.fp, .int .i64 u.tp, .int .i64 u.sq, .int .i64 u.ack, .bool u.syn, .bool u.fin, .bool u.rst, .bool u.ha, .int .i64 u.win, .int .i64 u.mss, .bool u.sacks, .slice A3 u.bl.length c3, .string u.s] v3 0 hR3.out) gx6.out, bcell (stN_below hR2.out.size [.int .i64 u.fp, .int .i64 u.tp, .int .i64 u.sq, .int .i64 u.ack, .bool u.syn, .bool u.fin, .bool u.rst, .bool u.ha, .int .i64 u.win, .int .i64 u.mss, .bool u.sacks, .slice A3 u.bl.length c3, .string u.s] v3 0 hR3.out) gx7.out, bcell (stN_below hR2.out.size [.int .i64 u.fp, .int .i64 u.tp, .int .i64 u.sq, .int .i64 u.ack, .bool u.syn, .bool u.fin, .bool u.rst, .bool u.ha, .int .i64 u.win, .int .i64 u.mss, .bool u.sacks, .slice A3 u.bl.length c3, .string u.s] v3 0 hR3.out) gx8.out, bcell (stN_below hR2.out.size [.int .i64 u.fp, .int .i64 u.tp, .int .i64 u.sq, .int .i64 u.ack, .bool u.syn, .bool u.fin, .bool u.rst, .bool u.ha, .int .i64 u.win, .int .i64 u.mss, .bool u.sacks, .slice A3 u.bl.length c3, .string u.s] v3 0 hR3.out) gx9.out, bcell (stN_below hR2.out.size [.int .i64 u.fp, .int .i64 u.tp, .int .i64 u.sq, .int .i64 u.ack, .bool u.syn, .bool u.fin, .bool u.rst, .bool u.ha, .int .i64 u.win, .int .i64 u.mss, .bool u.sacks, .slice A3 u.bl.length c3, .string u.s] v3 0 hR3.out) gx10.out, bcell (stN_below hR2.out.size [.int .i64 u.fp, .int .i64 u.tp, .int .i64 u.sq, .int .i64 u.ack, .bool u.syn, .bool u.fin, .bool u.rst, .bool u.ha, .int .i64 u.win, .int .i64 u.mss, .bool u.sacks, .slice A3 u.bl.length c3, .string u.s] v3 0 hR3.out) gx11.out, bcell (stN_below hR2.out.size [.int .i64 u.fp, .int .i64 u.tp, .int .i64 u.sq, .int .i64 u.ack, .bool u.syn, .bool u.fin, .bool u.rst, .bool u.ha, .int .i64 u.win, .int .i64 u.mss, .bool u.sacks, .slice A3 u.bl.length c3, .string u.s] v3 0 hR3.out) gx12.out, bcell (stN_below hR2.out.size [.int .i64 u.fp, .int .i64 u.tp, .int .i64 u.sq, .int .i64 u.ack, .bool u.syn, .bool u.fin, .bool u.rst, .bool u.ha, .int .i64 u.win, .int .i64 u.mss, .bool u.sacks, .slice A3 u.bl.length c3, .string u.s] v3 0 hR3.out) gk0.out, bcell (stN_below hR2.out.size [.int .i64 u.fp, .int .i64 u.tp, .int .i64 u.sq, .int .i64 u.ack, .bool u.syn, .bool u.fin, .bool u.rst, .bool u.ha, .int .i64 u.win, .int .i64 u.mss, .bool u.sacks, .slice A3 u.bl.length c3, .string u.s] v3 0 hR3.out) gk1.out, stN_below hR2.out.size [.int .i64 u.fp, .int .i64 u.tp, .int .i64 u.sq, .int .i64 u.ack, .bool u.syn, .bool u.fin, .bool u.rst, .bool u.ha, .int .i64 u.win, .int .i64 u.mss, .bool u.sacks, .slice A3 u.bl.length c3, .string u.s] v3 0 hR3.out⟩) | with_reducible exact ⟨bcell (hR2.out) gx0.out, bcell (hR2.out) gx1.out, bcell (hR2.out) gx2.out, bcell (hR2.out) gx3.out, bcell (hR2.out) gx4.out, bcell (hR2.out) gx5.out, bcell (hR2.out) gx6.out, bcell (hR2.out) gx7.out, bcell (hR2.out) gx8.out, bcell (hR2.out) gx9.out, bcell (hR2.out) gx10.out, bcell (hR2.out) gx11.out, bcell (hR2.out) gx12.out, bcell (hR2.out) gk0.out, bcell (hR2.out) gk1.out, hR2.out⟩ | with_reducible exact ⟨bcell (below_alloc hR2.out) gx0.out, bcell (below_alloc hR2.out) gx1.out, bcell (below_alloc hR2.out) gx2.out, bcell (below_alloc hR2.out) gx3.out, bcell (below_alloc hR2.out) gx4.out, bcell (below_alloc hR2.out) gx5.out, bcell (below_alloc hR2.out) gx6.out, bcell (below_alloc hR2.out) gx7.out, bcell (below_alloc hR2.out) gx8.out, bcell (below_alloc hR2.out) gx9.out, bcell (below_alloc hR2.out) gx10.out, bcell (below_alloc hR2.out) gx11.out, bcell (below_alloc hR2.out) gx12.out, bcell (below_alloc hR2.out) gk0.out, bcell (below_alloc hR2.out) gk1.out, below_alloc hR2.out⟩ | with_reducible exact ⟨bcell ((below_alloc HR).drew) gx0.out, bcell ((below_alloc HR).drew) gx1.out, bcell ((below_alloc HR).drew) gx2.out, bcell ((below_alloc HR).drew) gx3.out, bcell ((below_alloc HR).drew) gx4.out, bcell ((below_alloc HR).drew) gx5.out, bcell ((below_alloc HR).drew) gx6.out, bcell ((below_alloc HR).drew) gx7.out, bcell ((below_alloc HR).drew) gx8.out, bcell ((below_alloc HR).drew) gx9.out, bcell ((below_alloc HR).drew) gx10.out, bcell ((below_alloc HR).drew) gx11.out, bcell ((below_alloc HR).drew) gx12.out, bcell ((below_alloc HR).drew) gk0.out, bcell ((below_alloc HR).drew) gk1.out, (below_alloc HR).drew⟩ | exact ⟨gx0.out, gx1.out, gx2.out, gx3.out, gx4.out, gx5.out, gx6.out, gx7.out, gx8.out, gx9.out, gx10.out, gx11.out, gx12.out, gk0.out, gk1.out, HR.drew⟩)
      (first | (go_at_call 11; refine (HCx.out _ (HAx.out.below (below_call HB (by first | with_reducible exact HR.drew | exact (below_alloc HR).drew)))).mono ?_; rintro e v2 ⟨x2, A2, c2, hx2, rfl, hbk2, hb2⟩; first | (have hR2 := Lib.hid (below_call HR.drew hb2)) | (have hR2 := Lib.hid (below_call (below_alloc HR).drew hb2); have hN := Lib.hid (bblock hb2 (alloc_new w1 (.cells #[.int .i64 0, .int .i64 0, .int .i64 0, .int .i64 0, .bool false, .bool false, .bool false, .bool false, .int .i64 0, .int .i64 0, .bool false, .slice none 0 0, .string ⟨#[]⟩] 24))))) | (go_at_call 12; refine (HS0.out x2 A2 c2 _ hx2 (by first | exact hbk2 | exact Bks.alloc hbk2 _)).mono ?_; rintro e v3 ⟨u, A3, c3, hu, rfl, hbk3, hb3⟩; (first | (have hR3 := Lib.hid (below_call hR2.out hb3)) | (have hR3 := Lib.hid (below_call (below_alloc hR2.out) hb3))); (first | (have hM := Lib.hid (bblock hb3 hN.out); obtain ⟨⟨m0, m1, m2, m3, m4, m5, m6, m7, m8, m9, m10, m11, m12⟩, n0, n1, n2, n3, n4, n5, n6, n7, n8, n9, n10, n11, n12⟩ := cells13 hM.out) | (have hM := Lib.hid (bblock hb3 (alloc_new v2 (.cells #[.int .i64 0, .int .i64 0, .int .i64 0, .int .i64 0, .bool false, .bool false, .bool false, .bool false, .int .i64 0, .int .i64 0, .bool false, .slice none 0 0, .string ⟨#[]⟩] 24))); obtain ⟨⟨m0, m1, m2, m3, m4, m5, m6, m7, m8, m9, m10, m11, m12⟩, n0, n1, n2, n3, n4, n5, n6, n7, n8, n9, n10, n11, n12⟩ := cells13 hM.out) | skip)))
    all_goals
      go_wp2_with fail
      go_meet
      first | (have _t := hN; exact ⟨_, u, A3, c3, rfl, hu, stN_all [.int .i64 u.fp, .int .i64 u.tp, .int .i64 u.sq, .int .i64 u.ack, .bool u.syn, .bool u.fin, .bool u.rst, .bool u.ha, .int .i64 u.win, .int .i64 u.mss, .bool u.sacks, .slice A3 u.bl.length c3, .string u.s] hM.out rfl, Bks.stN (by decide) [.int .i64 u.fp, .int .i64 u.tp, .int .i64 u.sq, .int .i64 u.ack, .bool u.syn, .bool u.fin, .bool u.rst, .bool u.ha, .int .i64 u.win, .int .i64 u.mss, .bool u.sacks, .slice A3 u.bl.length c3, .string u.s] _ 0 _ hbk3 hM.out, stN_below (Nat.le_refl _) [.int .i64 u.fp, .int .i64 u.tp, .int .i64 u.sq, .int .i64 u.ack, .bool u.syn, .bool u.fin, .bool u.rst, .bool u.ha, .int .i64 u.win, .int .i64 u.mss, .bool u.sacks, .slice A3 u.bl.length c3, .string u.s] _ 0 hR3.out, (Nat.le_refl _)⟩) | (have _t := hM; exact ⟨_, u, A3, c3, rfl, hu, stN_all [.int .i64 u.fp, .int .i64 u.tp, .int .i64 u.sq, .int .i64 u.ack, .bool u.syn, .bool u.fin, .bool u.rst, .bool u.ha, .int .i64 u.win, .int .i64 u.mss, .bool u.sacks, .slice A3 u.bl.length c3, .string u.s] hM.out rfl, Bks.stN (by decide) [.int .i64 u.fp, .int .i64 u.tp, .int .i64 u.sq, .int .i64 u.ack, .bool u.syn, .bool u.fin, .bool u.rst, .bool u.ha, .int .i64 u.win, .int .i64 u.mss, .bool u.sacks, .slice A3 u.bl.length c3, .string u.s] _ 0 _ hbk3 hM.out, stN_below hR2.out.size [.int .i64 u.fp, .int .i64 u.tp, .int .i64 u.sq, .int .i64 u.ack, .bool u.syn, .bool u.fin, .bool u.rst, .bool u.ha, .int .i64 u.win, .int .i64 u.mss, .bool u.sacks, .slice A3 u.bl.length c3, .string u.s] _ 0 hR3.out, hR2.out.size⟩) | exact ⟨_, u, A3, c3, rfl, hu, alloc_new v3 _, Bks.alloc hbk3 _, below_alloc hR3.out, hR3.out.size⟩
  case rest =>
    obtain ⟨Bu, u, Au, cu, rfl, huok, hu, hubk, hb, hBu⟩ := hcut
    obtain ⟨wx, rfl⟩ : ∃ wo : World, wo = wc := ⟨_, rfl⟩
    have Hu := Lib.hid hu; have Huok := Lib.hid huok; have Hubk := Lib.hid hubk; clear hu huok hubk
    have Hx' := Lib.hid (bblock hb Hx.out); clear Hx; have Hx := Hx'; clear Hx'
    have Hy' := Lib.hid (bblock hb Hy.out); clear Hy; have Hy := Hy'; clear Hy'
    have Hk' := Lib.hid (bblock hb Hk.out); clear Hk; have Hk := Hk'; clear Hk'
    have HB' := below_call HB hb; clear HB hb; have HB := HB'; clear HB'; have hz := HB.size
    go_upto_region 5 with fail
    go_cut [13] (fun s13 wz => ∃ (B : Nat) (u : Seg) (A : Option Addr) (c : Nat), s13 = .pointer (some ⟨B, 0, none⟩) ∧ u.ok ∧ wz.heap[B]? = some (.cells #[.int .i64 u.fp, .int .i64 u.tp, .int .i64 u.sq, .int .i64 u.ack, .bool u.syn, .bool u.fin, .bool u.rst, .bool u.ha, .int .i64 u.win, .int .i64 u.mss, .bool u.sacks, .slice A u.bl.length c, .string u.s] 24 (0, 0)) ∧ Bks wz A u.bl.length u.bl ∧ Below wx.heap.size wx wz ∧ wx.heap.size ≤ B)
    case first =>
      have HR := Below.refl wx.heap.size wx
      have gy0 : Hid (wx.cell? ⟨w.heap.size + 1, 0, none⟩ = some (.int .i64 yfp)) := Lib.hid (cell_of_block (k := 0) Hy.out rfl).1
      have gy1 : Hid (wx.cell? ⟨w.heap.size + 1, 1, none⟩ = some (.int .i64 ytp)) := Lib.hid (cell_of_block (k := 1) Hy.out rfl).1
      have gy2 : Hid (wx.cell? ⟨w.heap.size + 1, 2, none⟩ = some (.int .i64 ysq)) := Lib.hid (cell_of_block (k := 2) Hy.out rfl).1
      have gy3 : Hid (wx.cell? ⟨w.heap.size + 1, 3, none⟩ = some (.int .i64 yack)) := Lib.hid (cell_of_block (k := 3) Hy.out rfl).1
      have gy4 : Hid (wx.cell? ⟨w.heap.size + 1, 4, none⟩ = some (.bool ysyn)) := Lib.hid (cell_of_block (k := 4) Hy.out rfl).1
      have gy5 : Hid (wx.cell? ⟨w.heap.size + 1, 5, none⟩ = some (.bool yfin)) := Lib.hid (cell_of_block (k := 5) Hy.out rfl).1
      have gy6 : Hid (wx.cell? ⟨w.heap.size + 1, 6, none⟩ = some (.bool yrst)) := Lib.hid (cell_of_block (k := 6) Hy.out rfl).1
      have gy7 : Hid (wx.cell? ⟨w.heap.size + 1, 7, none⟩ = some (.bool yha)) := Lib.hid (cell_of_block (k := 7) Hy.out rfl).1
      have gy8 : Hid (wx.cell? ⟨w.heap.size + 1, 8, none⟩ = some (.int .i64 ywin)) := Lib.hid (cell_of_block (k := 8) Hy.out rfl).1
      have gy9 : Hid (wx.cell? ⟨w.heap.size + 1, 9, none⟩ = some (.int .i64 ymss)) := Lib.hid (cell_of_block (k := 9) Hy.out rfl).1
      have gy10 : Hid (wx.cell? ⟨w.heap.size + 1, 10, none⟩ = some (.bool ysacks)) := Lib.hid (cell_of_block (k := 10) Hy.out rfl).1
      have gy11 : Hid (wx.cell? ⟨w.heap.size + 1, 11, none⟩ = some (.slice yA yn yc)) := Lib.hid (cell_of_block (k := 11) Hy.out rfl).1
      have gy12 : Hid (wx.cell? ⟨w.heap.size + 1, 12, none⟩ = some (.string ys)) := Lib.hid (cell_of_block (k := 12) Hy.out rfl).1
      have gk0 : Hid (wx.cell? ⟨w.heap.size + 1 + 1, 0, none⟩ = some (.int .i64 k0)) := Lib.hid (cell_of_block (k := 0) Hk.out rfl).1
      have gk1 : Hid (wx.cell? ⟨w.heap.size + 1 + 1, 1, none⟩ = some (.int .i64 k1)) := Lib.hid (cell_of_block (k := 1) Hk.out rfl).1
      go_region_held3 (fun w' => w'.cell? ⟨w.heap.size + 1, 0, none⟩ = some (.int .i64 yfp) ∧ w'.cell? ⟨w.heap.size + 1, 1, none⟩ = some (.int .i64 ytp) ∧ w'.cell? ⟨w.heap.size + 1, 2, none⟩ = some (.int .i64 ysq) ∧ w'.cell? ⟨w.heap.size + 1, 3, none⟩ = some (.int .i64 yack) ∧ w'.cell? ⟨w.heap.size + 1, 4, none⟩ = some (.bool ysyn) ∧ w'.cell? ⟨w.heap.size + 1, 5, none⟩ = some (.bool yfin) ∧ w'.cell? ⟨w.heap.size + 1, 6, none⟩ = some (.bool yrst) ∧ w'.cell? ⟨w.heap.size + 1, 7, none⟩ = some (.bool yha) ∧ w'.cell? ⟨w.heap.size + 1, 8, none⟩ = some (.int .i64 ywin) ∧ w'.cell? ⟨w.heap.size + 1, 9, none⟩ = some (.int .i64 ymss) ∧ w'.cell? ⟨w.heap.size + 1, 10, none⟩ = some (.bool ysacks) ∧ w'.cell? ⟨w.heap.size + 1, 11, none⟩ = some (.slice yA yn yc) ∧ w'.cell? ⟨w.heap.size + 1, 12, none⟩ = some (.string ys) ∧ w'.cell? ⟨w.heap.size + 1 + 1, 0, none⟩ = some (.int .i64 k0) ∧ w'.cell? ⟨w.heap.size + 1 + 1, 1, none⟩ = some (.int .i64 k1) ∧ Below wx.heap.size wx w') (first | with_reducible exact ⟨bcell (hR3.out) gy0.out, bcell (hR3.out) gy1.out, bcell (hR3.out) gy2.out, bcell (hR3.out) gy3.out, bcell (hR3.out) gy4.out, bcell (hR3.out) gy5.out, bcell (hR3.out) gy6.out, bcell (hR3.out) gy7.out, bcell (hR3.out) gy8.out, bcell (hR3.out) gy9.out, bcell (hR3.out) gy10.out, bcell (hR3.out) gy11.out, bcell (hR3.out) gy12.out, bcell (hR3.out) gk0.out, bcell (hR3.out) gk1.out, hR3.out⟩ | with_reducible exact ⟨bcell (below_alloc hR3.out) gy0.out, bcell (below_alloc hR3.out) gy1.out, bcell (below_alloc hR3.out) gy2.out, bcell (below_alloc hR3.out) gy3.out, bcell (below_alloc hR3.out) gy4.out, bcell (below_alloc hR3.out) gy5.out, bcell (below_alloc hR3.out) gy6.out, bcell (below_alloc hR3.out) gy7.out, bcell (below_alloc hR3.out) gy8.out, bcell (below_alloc hR3.out) gy9.out, bcell (below_alloc hR3.out) gy10.out, bcell (below_alloc hR3.out) gy11.out, bcell (below_alloc hR3.out) gy12.out, bcell (below_alloc hR3.out) gk0.out, bcell (below_alloc hR3.out) gk1.out, below_alloc hR3.out⟩ | (have _t := hN; exact ⟨bcell (stN_below (Nat.le_refl _) [.int .i64 u.fp, .int .i64 u.tp, .int .i64 u.sq, .int .i64 u.ack, .bool u.syn, .bool u.fin, .bool u.rst, .bool u.ha, .int .i64 u.win, .int .i64 u.mss, .bool u.sacks, .slice A3 u.bl.length c3, .string u.s] v3 0 hR3.out) gy0.out, bcell (stN_below (Nat.le_refl _) [.int .i64 u.fp, .int .i64 u.tp, .int .i64 u.sq, .int .i64 u.ack, .bool u.syn, .bool u.fin, .bool u.rst, .bool u.ha, .int .i64 u.win, .int .i64 u.mss, .bool u.sacks, .slice A3 u.bl.length c3, .string u.s] v3 0 hR3.out) gy1.out, bcell (stN_below (Nat.le_refl _) [.int .i64 u.fp, .int .i64 u.tp, .int .i64 u.sq, .int .i64 u.ack, .bool u.syn, .bool u.fin, .bool u.rst, .bool u.ha, .int .i64 u.win, .int .i64 u.mss, .bool u.sacks, .slice A3 u.bl.length c3, .string u.s] v3 0 hR3.out) gy2.out, bcell (stN_below (Nat.le_refl _) [.int .i64 u.fp, .int .i64 u.tp, .int .i64 u.sq, .int .i64 u.ack, .bool u.syn, .bool u.fin, .bool u.rst, .bool u.ha, .int .i64 u.win, .int .i64 u.mss, .bool u.sacks, .slice A3 u.bl.length c3, .string u.s] v3 0 hR3.out) gy3.out, bcell (stN_below (Nat.le_refl _) [.int .i64 u.fp, .int .i64 u.tp, .int .i64 u.sq, .int .i64 u.ack, .bool u.syn, .bool u.fin, .bool u.rst, .bool u.ha, .int .i64 u.win, .int .i64 u.mss, .bool u.sacks, .slice A3 u.bl.length c3, .string u.s] v3 0 hR3.out) gy4.out, bcell (stN_below (Nat.le_refl _) [.int .i64 u.fp, .int .i64 u.tp, .int .i64 u.sq, .int .i64 u.ack, .bool u.syn, .bool u.fin, .bool u.rst, .bool u.ha, .int .i64 u.win, .int .i64 u.mss, .bool u.sacks, .slice A3 u.bl.length c3, .string u.s] v3 0 hR3.out) gy5.out, bcell (stN_below (Nat.le_refl _) [.int .i64 u.fp, .int .i64 u.tp, .int .i64 u.sq, .int .i64 u.ack, .bool u.syn, .bool u.fin, .bool u.rst, .bool u.ha, .int .i64 u.win, .int .i64 u.mss, .bool u.sacks, .slice A3 u.bl.length c3, .string u.s] v3 0 hR3.out) gy6.out, bcell (stN_below (Nat.le_refl _) [.int .i64 u.fp, .int .i64 u.tp, .int .i64 u.sq, .int .i64 u.ack, .bool u.syn, .bool u.fin, .bool u.rst, .bool u.ha, .int .i64 u.win, .int .i64 u.mss, .bool u.sacks, .slice A3 u.bl.length c3, .string u.s] v3 0 hR3.out) gy7.out, bcell (stN_below (Nat.le_refl _) [.int .i64 u.fp, .int .i64 u.tp, .int .i64 u.sq, .int .i64 u.ack, .bool u.syn, .bool u.fin, .bool u.rst, .bool u.ha, .int .i64 u.win, .int .i64 u.mss, .bool u.sacks, .slice A3 u.bl.length c3, .string u.s] v3 0 hR3.out) gy8.out, bcell (stN_below (Nat.le_refl _) [.int .i64 u.fp, .int .i64 u.tp, .int .i64 u.sq, .int .i64 u.ack, .bool u.syn, .bool u.fin, .bool u.rst, .bool u.ha, .int .i64 u.win, .int .i64 u.mss, .bool u.sacks, .slice A3 u.bl.length c3, .string u.s] v3 0 hR3.out) gy9.out, bcell (stN_below (Nat.le_refl _) [.int .i64 u.fp, .int .i64 u.tp, .int .i64 u.sq, .int .i64 u.ack, .bool u.syn, .bool u.fin, .bool u.rst, .bool u.ha, .int .i64 u.win, .int .i64 u.mss, .bool u.sacks, .slice A3 u.bl.length c3, .string u.s] v3 0 hR3.out) gy10.out, bcell (stN_below (Nat.le_refl _) [.int .i64 u.fp, .int .i64 u.tp, .int .i64 u.sq, .int .i64 u.ack, .bool u.syn, .bool u.fin, .bool u.rst, .bool u.ha, .int .i64 u.win, .int .i64 u.mss, .bool u.sacks, .slice A3 u.bl.length c3, .string u.s] v3 0 hR3.out) gy11.out, bcell (stN_below (Nat.le_refl _) [.int .i64 u.fp, .int .i64 u.tp, .int .i64 u.sq, .int .i64 u.ack, .bool u.syn, .bool u.fin, .bool u.rst, .bool u.ha, .int .i64 u.win, .int .i64 u.mss, .bool u.sacks, .slice A3 u.bl.length c3, .string u.s] v3 0 hR3.out) gy12.out, bcell (stN_below (Nat.le_refl _) [.int .i64 u.fp, .int .i64 u.tp, .int .i64 u.sq, .int .i64 u.ack, .bool u.syn, .bool u.fin, .bool u.rst, .bool u.ha, .int .i64 u.win, .int .i64 u.mss, .bool u.sacks, .slice A3 u.bl.length c3, .string u.s] v3 0 hR3.out) gk0.out, bcell (stN_below (Nat.le_refl _) [.int .i64 u.fp, .int .i64 u.tp, .int .i64 u.sq, .int .i64 u.ack, .bool u.syn, .bool u.fin, .bool u.rst, .bool u.ha, .int .i64 u.win, .int .i64 u.mss, .bool u.sacks, .slice A3 u.bl.length c3, .string u.s] v3 0 hR3.out) gk1.out, stN_below (Nat.le_refl _) [.int .i64 u.fp, .int .i64 u.tp, .int .i64 u.sq, .int .i64 u.ack, .bool u.syn, .bool u.fin, .bool u.rst, .bool u.ha, .int .i64 u.win, .int .i64 u.mss, .bool u.sacks, .slice A3 u.bl.length c3, .string u.s] v3 0 hR3.out⟩) | (have _t := hM; exact ⟨bcell (stN_below hR2.out.size [.int .i64 u.fp, .int .i64 u.tp, .int .i64 u.sq, .int .i64 u.ack, .bool u.syn, .bool u.fin, .bool u.rst, .bool u.ha, .int .i64 u.win, .int .i64 u.mss, .bool u.sacks, .slice A3 u.bl.length c3, .string u.s] v3 0 hR3.out) gy0.out, bcell (stN_below hR2.out.size [.int .i64 u.fp, .int .i64 u.tp, .int .i64 u.sq, .int .i64 u.ack, .bool u.syn, .bool u.fin, .bool u.rst, .bool u.ha, .int .i64 u.win, .int .i64 u.mss, .bool u.sacks, .slice A3 u.bl.length c3, .string u.s] v3 0 hR3.out) gy1.out, bcell (stN_below hR2.out.size [.int .i64 u.fp, .int .i64 u.tp, .int .i64 u.sq, .int .i64 u.ack, .bool u.syn, .bool u.fin, .bool u.rst, .bool u.ha, .int .i64 u.win, .int .i64 u.mss, .bool u.sacks, .slice A3 u.bl.length c3, .string u.s] v3 0 hR3.out) gy2.out, bcell (stN_below hR2.out.size [.int .i64 u.fp, .int .i64 u.tp, .int .i64 u.sq, .int .i64 u.ack, .bool u.syn, .bool u.fin, .bool u.rst, .bool u.ha, .int .i64 u.win, .int .i64 u.mss, .bool u.sacks, .slice A3 u.bl.length c3, .string u.s] v3 0 hR3.out) gy3.out, bcell (stN_below hR2.out.size [.int .i64 u.fp, .int .i64 u.tp, .int .i64 u.sq, .int .i64 u.ack, .bool u.syn, .bool u.fin, .bool u.rst, .bool u.ha, .int .i64 u.win, .int .i64 u.mss, .bool u.sacks, .slice A3 u.bl.length c3, .string u.s] v3 0 hR3.out) gy4.out, bcell (stN_below hR2.out.size [.int .i64 u.fp, .int .i64 u.tp, .int .i64 u.sq, .int .i64 u.ack, .bool u.syn, .bool u.fin, .bool u.rst, .bool u.ha, .int .i64 u.win, .int .i64 u.mss, .bool u.sacks, .slice A3 u.bl.length c3, .string u.s] v3 0 hR3.out) gy5.out, bcell (stN_below hR2.out.size [.int .i64 u.fp, .int .i64 u.tp, .int .i64 u.sq, .int .i64 u.ack, .bool u.syn, .bool u.fin, .bool u.rst, .bool u.ha, .int .i64 u.win, .int .i64 u.mss, .bool u.sacks, .slice A3 u.bl.length c3, .string u.s] v3 0 hR3.out) gy6.out, bcell (stN_below hR2.out.size [.int .i64 u.fp, .int .i64 u.tp, .int .i64 u.sq, .int .i64 u.ack, .bool u.syn, .bool u.fin, .bool u.rst, .bool u.ha, .int .i64 u.win, .int .i64 u.mss, .bool u.sacks, .slice A3 u.bl.length c3, .string u.s] v3 0 hR3.out) gy7.out, bcell (stN_below hR2.out.size [.int .i64 u.fp, .int .i64 u.tp, .int .i64 u.sq, .int .i64 u.ack, .bool u.syn, .bool u.fin, .bool u.rst, .bool u.ha, .int .i64 u.win, .int .i64 u.mss, .bool u.sacks, .slice A3 u.bl.length c3, .string u.s] v3 0 hR3.out) gy8.out, bcell (stN_below hR2.out.size [.int .i64 u.fp, .int .i64 u.tp, .int .i64 u.sq, .int .i64 u.ack, .bool u.syn, .bool u.fin, .bool u.rst, .bool u.ha, .int .i64 u.win, .int .i64 u.mss, .bool u.sacks, .slice A3 u.bl.length c3, .string u.s] v3 0 hR3.out) gy9.out, bcell (stN_below hR2.out.size [.int .i64 u.fp, .int .i64 u.tp, .int .i64 u.sq, .int .i64 u.ack, .bool u.syn, .bool u.fin, .bool u.rst, .bool u.ha, .int .i64 u.win, .int .i64 u.mss, .bool u.sacks, .slice A3 u.bl.length c3, .string u.s] v3 0 hR3.out) gy10.out, bcell (stN_below hR2.out.size [.int .i64 u.fp, .int .i64 u.tp, .int .i64 u.sq, .int .i64 u.ack, .bool u.syn, .bool u.fin, .bool u.rst, .bool u.ha, .int .i64 u.win, .int .i64 u.mss, .bool u.sacks, .slice A3 u.bl.length c3, .string u.s] v3 0 hR3.out) gy11.out, bcell (stN_below hR2.out.size [.int .i64 u.fp, .int .i64 u.tp, .int .i64 u.sq, .int .i64 u.ack, .bool u.syn, .bool u.fin, .bool u.rst, .bool u.ha, .int .i64 u.win, .int .i64 u.mss, .bool u.sacks, .slice A3 u.bl.length c3, .string u.s] v3 0 hR3.out) gy12.out, bcell (stN_below hR2.out.size [.int .i64 u.fp, .int .i64 u.tp, .int .i64 u.sq, .int .i64 u.ack, .bool u.syn, .bool u.fin, .bool u.rst, .bool u.ha, .int .i64 u.win, .int .i64 u.mss, .bool u.sacks, .slice A3 u.bl.length c3, .string u.s] v3 0 hR3.out) gk0.out, bcell (stN_below hR2.out.size [.int .i64 u.fp, .int .i64 u.tp, .int .i64 u.sq, .int .i64 u.ack, .bool u.syn, .bool u.fin, .bool u.rst, .bool u.ha, .int .i64 u.win, .int .i64 u.mss, .bool u.sacks, .slice A3 u.bl.length c3, .string u.s] v3 0 hR3.out) gk1.out, stN_below hR2.out.size [.int .i64 u.fp, .int .i64 u.tp, .int .i64 u.sq, .int .i64 u.ack, .bool u.syn, .bool u.fin, .bool u.rst, .bool u.ha, .int .i64 u.win, .int .i64 u.mss, .bool u.sacks, .slice A3 u.bl.length c3, .string u.s] v3 0 hR3.out⟩) | with_reducible exact ⟨bcell (hR2.out) gy0.out, bcell (hR2.out) gy1.out, bcell (hR2.out) gy2.out, bcell (hR2.out) gy3.out, bcell (hR2.out) gy4.out, bcell (hR2.out) gy5.out, bcell (hR2.out) gy6.out, bcell (hR2.out) gy7.out, bcell (hR2.out) gy8.out, bcell (hR2.out) gy9.out, bcell (hR2.out) gy10.out, bcell (hR2.out) gy11.out, bcell (hR2.out) gy12.out, bcell (hR2.out) gk0.out, bcell (hR2.out) gk1.out, hR2.out⟩ | with_reducible exact ⟨bcell (below_alloc hR2.out) gy0.out, bcell (below_alloc hR2.out) gy1.out, bcell (below_alloc hR2.out) gy2.out, bcell (below_alloc hR2.out) gy3.out, bcell (below_alloc hR2.out) gy4.out, bcell (below_alloc hR2.out) gy5.out, bcell (below_alloc hR2.out) gy6.out, bcell (below_alloc hR2.out) gy7.out, bcell (below_alloc hR2.out) gy8.out, bcell (below_alloc hR2.out) gy9.out, bcell (below_alloc hR2.out) gy10.out, bcell (below_alloc hR2.out) gy11.out, bcell (below_alloc hR2.out) gy12.out, bcell (below_alloc hR2.out) gk0.out, bcell (below_alloc hR2.out) gk1.out, below_alloc hR2.out⟩ | with_reducible exact ⟨bcell ((below_alloc HR).drew) gy0.out, bcell ((below_alloc HR).drew) gy1.out, bcell ((below_alloc HR).drew) gy2.out, bcell ((below_alloc HR).drew) gy3.out, bcell ((below_alloc HR).drew) gy4.out, bcell ((below_alloc HR).drew) gy5.out, bcell ((below_alloc HR).drew) gy6.out, bcell ((below_alloc HR).drew) gy7.out, bcell ((below_alloc HR).drew) gy8.out, bcell ((below_alloc HR).drew) gy9.out, bcell ((below_alloc HR).drew) gy10.out, bcell ((below_alloc HR).drew) gy11.out, bcell ((below_alloc HR).drew) gy12.out, bcell ((below_alloc HR).drew) gk0.out, bcell ((below_alloc HR).drew) gk1.out, (below_alloc HR).drew⟩ | exact ⟨gy0.out, gy1.out, gy2.out, gy3.out, gy4.out, gy5.out, gy6.out, gy7.out, gy8.out, gy9.out, gy10.out, gy11.out, gy12.out, gk0.out, gk1.out, HR.drew⟩)
        (first | (go_at_call 11; refine (HCy.out _ (HAy.out.below (below_call HB (by first | with_reducible exact HR.drew | exact (below_alloc HR).drew)))).mono ?_; rintro e v2 ⟨x2, A2, c2, hx2, rfl, hbk2, hb2⟩; first | (have hR2 := Lib.hid (below_call HR.drew hb2)) | (have hR2 := Lib.hid (below_call (below_alloc HR).drew hb2); have hN := Lib.hid (bblock hb2 (alloc_new wx (.cells #[.int .i64 0, .int .i64 0, .int .i64 0, .int .i64 0, .bool false, .bool false, .bool false, .bool false, .int .i64 0, .int .i64 0, .bool false, .slice none 0 0, .string ⟨#[]⟩] 24))))) | (go_at_call 12; refine (HS1.out x2 A2 c2 _ hx2 (by first | exact hbk2 | exact Bks.alloc hbk2 _)).mono ?_; rintro e v3 ⟨u, A3, c3, hu, rfl, hbk3, hb3⟩; (first | (have hR3 := Lib.hid (below_call hR2.out hb3)) | (have hR3 := Lib.hid (below_call (below_alloc hR2.out) hb3))); (first | (have hM := Lib.hid (bblock hb3 hN.out); obtain ⟨⟨m0, m1, m2, m3, m4, m5, m6, m7, m8, m9, m10, m11, m12⟩, n0, n1, n2, n3, n4, n5, n6, n7, n8, n9, n10, n11, n12⟩ := cells13 hM.out) | (have hM := Lib.hid (bblock hb3 (alloc_new v2 (.cells #[.int .i64 0, .int .i64 0, .int .i64 0, .int .i64 0, .bool false, .bool false, .bool false, .bool false, .int .i64 0, .int .i64 0, .bool false, .slice none 0 0, .string ⟨#[]⟩] 24))); obtain ⟨⟨m0, m1, m2, m3, m4, m5, m6, m7, m8, m9, m10, m11, m12⟩, n0, n1, n2, n3, n4, n5, n6, n7, n8, n9, n10, n11, n12⟩ := cells13 hM.out) | skip)))
      all_goals
        go_wp2_with fail
        go_meet
        first | (have _t := hN; exact ⟨_, u, A3, c3, rfl, hu, stN_all [.int .i64 u.fp, .int .i64 u.tp, .int .i64 u.sq, .int .i64 u.ack, .bool u.syn, .bool u.fin, .bool u.rst, .bool u.ha, .int .i64 u.win, .int .i64 u.mss, .bool u.sacks, .slice A3 u.bl.length c3, .string u.s] hM.out rfl, Bks.stN (by decide) [.int .i64 u.fp, .int .i64 u.tp, .int .i64 u.sq, .int .i64 u.ack, .bool u.syn, .bool u.fin, .bool u.rst, .bool u.ha, .int .i64 u.win, .int .i64 u.mss, .bool u.sacks, .slice A3 u.bl.length c3, .string u.s] _ 0 _ hbk3 hM.out, stN_below (Nat.le_refl _) [.int .i64 u.fp, .int .i64 u.tp, .int .i64 u.sq, .int .i64 u.ack, .bool u.syn, .bool u.fin, .bool u.rst, .bool u.ha, .int .i64 u.win, .int .i64 u.mss, .bool u.sacks, .slice A3 u.bl.length c3, .string u.s] _ 0 hR3.out, (Nat.le_refl _)⟩) | (have _t := hM; exact ⟨_, u, A3, c3, rfl, hu, stN_all [.int .i64 u.fp, .int .i64 u.tp, .int .i64 u.sq, .int .i64 u.ack, .bool u.syn, .bool u.fin, .bool u.rst, .bool u.ha, .int .i64 u.win, .int .i64 u.mss, .bool u.sacks, .slice A3 u.bl.length c3, .string u.s] hM.out rfl, Bks.stN (by decide) [.int .i64 u.fp, .int .i64 u.tp, .int .i64 u.sq, .int .i64 u.ack, .bool u.syn, .bool u.fin, .bool u.rst, .bool u.ha, .int .i64 u.win, .int .i64 u.mss, .bool u.sacks, .slice A3 u.bl.length c3, .string u.s] _ 0 _ hbk3 hM.out, stN_below hR2.out.size [.int .i64 u.fp, .int .i64 u.tp, .int .i64 u.sq, .int .i64 u.ack, .bool u.syn, .bool u.fin, .bool u.rst, .bool u.ha, .int .i64 u.win, .int .i64 u.mss, .bool u.sacks, .slice A3 u.bl.length c3, .string u.s] _ 0 hR3.out, hR2.out.size⟩) | exact ⟨_, u, A3, c3, rfl, hu, alloc_new v3 _, Bks.alloc hbk3 _, below_alloc hR3.out, hR3.out.size⟩
    case rest =>
      obtain ⟨Bv, v, Av, cv, rfl, hvok, hv, hvbk, hb, hBv⟩ := hcut
      obtain ⟨wy, rfl⟩ : ∃ wo : World, wo = wc := ⟨_, rfl⟩
      have Hv := Lib.hid hv; have Hvok := Lib.hid hvok; have Hvbk := Lib.hid hvbk; clear hv hvok hvbk
      have Hx' := Lib.hid (bblock hb Hx.out); clear Hx; have Hx := Hx'; clear Hx'
      have Hy' := Lib.hid (bblock hb Hy.out); clear Hy; have Hy := Hy'; clear Hy'
      have Hk' := Lib.hid (bblock hb Hk.out); clear Hk; have Hk := Hk'; clear Hk'
      have Hu' := Lib.hid (bblock hb Hu.out); clear Hu; have Hu := Hu'; clear Hu'
      have Hubk' := Lib.hid (Hubk.out.below hb); clear Hubk; have Hubk := Hubk'; clear Hubk'
      have HB' := below_call HB hb; clear HB hb; have HB := HB'; clear HB'; have hz := HB.size
      go_wp2_with fail
      refine (HP.out _).mono ?_
      rintro e w' ⟨rfl, rfl⟩
      go_wp2_with fail
      refine (HQ.out _).mono ?_
      rintro e w' ⟨rfl, rfl⟩
      have HEu := Lib.hid fun W hb => enc_ok p q u Au cu W ⟨hp0, by omega⟩ ⟨hq0, by omega⟩ Huok.out hb
      have HEv := Lib.hid fun W hb => enc_ok p q v Av cv W ⟨hp0, by omega⟩ ⟨hq0, by omega⟩ Hvok.out hb
      have HD : Hid (∀ w, Calls Try.prog 22 #[.int .i64 p, .int .i64 q, .string ⟨(u.enc p q).toArray⟩] w fun e w' => (∃ (A : Option Addr) (c : Nat), e = .returned (.tuple #[.agg #[.int .i64 u.fp, .int .i64 u.tp, .int .i64 u.sq, .int .i64 u.ack, .bool u.syn, .bool u.fin, .bool u.rst, .bool u.ha, .int .i64 u.win, .int .i64 u.mss, .bool u.sacks, .slice A u.bl.length c, .string u.s], .int .i64 0]) ∧ Bks w' A u.bl.length u.bl) ∧ Below w.heap.size w w') := Lib.hid fun w => dec_back p q u w ⟨hp0, by omega⟩ ⟨hq0, by omega⟩ Huok.out
      have HRS : Hid (∀ W, Bks W Au u.bl.length u.bl → Bks W Av v.bl.length v.bl → Calls Try.prog 19 #[.agg #[.int .i64 u.fp, .int .i64 u.tp, .int .i64 u.sq, .int .i64 u.ack, .bool u.syn, .bool u.fin, .bool u.rst, .bool u.ha, .int .i64 u.win, .int .i64 u.mss, .bool u.sacks, .slice Au u.bl.length cu, .string u.s], .agg #[.int .i64 v.fp, .int .i64 v.tp, .int .i64 v.sq, .int .i64 v.ack, .bool v.syn, .bool v.fin, .bool v.rst, .bool v.ha, .int .i64 v.win, .int .i64 v.mss, .bool v.sacks, .slice Av v.bl.length cv, .string v.s]] W fun e w' => e = .returned (.bool (sameB u v)) ∧ Below W.heap.size W w') := Lib.hid fun W h1 h2 => rsame_any u v Au Av cu cv W (by have := Huok.out.2.2.1.1.1; omega) h1 h2
      have HSM : Hid (∀ W A c, Bks W A u.bl.length u.bl → Bks W Au u.bl.length u.bl → Calls Try.prog 18 #[.agg #[.int .i64 u.fp, .int .i64 u.tp, .int .i64 u.sq, .int .i64 u.ack, .bool u.syn, .bool u.fin, .bool u.rst, .bool u.ha, .int .i64 u.win, .int .i64 u.mss, .bool u.sacks, .slice A u.bl.length c, .string u.s], .agg #[.int .i64 u.fp, .int .i64 u.tp, .int .i64 u.sq, .int .i64 u.ack, .bool u.syn, .bool u.fin, .bool u.rst, .bool u.ha, .int .i64 u.win, .int .i64 u.mss, .bool u.sacks, .slice Au u.bl.length cu, .string u.s]] W fun e w' => e = .returned (.bool true) ∧ Below W.heap.size W w') := Lib.hid fun W A c h1 h2 => same_yes u A Au c cu W (by have := Huok.out.2.2.1.1.1; omega) h1 h2
      have HVA : Hid (∀ W, Bks W Au u.bl.length u.bl → Calls Try.prog 16 #[.agg #[.int .i64 u.fp, .int .i64 u.tp, .int .i64 u.sq, .int .i64 u.ack, .bool u.syn, .bool u.fin, .bool u.rst, .bool u.ha, .int .i64 u.win, .int .i64 u.mss, .bool u.sacks, .slice Au u.bl.length cu, .string u.s]] W fun e w' => e = .returned (.bool true) ∧ Below W.heap.size W w') := Lib.hid fun W h => valSeg u Au cu W true (decide_eq_true Huok.out) (by have := Huok.out.2.2.1.1.1; omega) h
      have lE1 := enc_length p q u; have lE2 := enc_le p q u Huok.out; have lE3 := enc_le p q v Hvok.out
      have hEq : (u.enc p q == v.enc p q) = sameB u v := enc_same p q u v Huok.out Hvok.out
      have hbl3 : u.bl.length ≤ 3 := Huok.out.2.2.1.1.1
      generalize u.enc p q = E1 at *; generalize v.enc p q = E2 at *; generalize sameB u v = bq at *
      have HEq := Lib.hid hEq; clear hEq; have HE1 := Lib.hid lE1; clear lE1
      have Su := cells13 Hu.out
      obtain ⟨⟨qu0, qu1, qu2, qu3, qu4, qu5, qu6, qu7, qu8, qu9, qu10, qu11, qu12⟩, zu0, zu1, zu2, zu3, zu4, zu5, zu6, zu7, zu8, zu9, zu10, zu11, zu12⟩ := Su
      have lt_u := blk_lt Hu.out
      go_wp2_with fail
      refine (HEu.out _ Hubk.out).mono ?_
      rintro e w2 ⟨rfl, hb⟩
      clear qu0 zu0 qu1 zu1 qu2 zu2 qu3 zu3 qu4 zu4 qu5 zu5 qu6 zu6 qu7 zu7 qu8 zu8 qu9 zu9 qu10 zu10 qu11 zu11 qu12 zu12
      have Hx' := Lib.hid (bblock hb Hx.out); clear Hx; have Hx := Hx'; clear Hx'
      have Hy' := Lib.hid (bblock hb Hy.out); clear Hy; have Hy := Hy'; clear Hy'
      have Hk' := Lib.hid (bblock hb Hk.out); clear Hk; have Hk := Hk'; clear Hk'
      have Hu' := Lib.hid (bblock hb Hu.out); clear Hu; have Hu := Hu'; clear Hu'
      have Hv' := Lib.hid (bblock hb Hv.out); clear Hv; have Hv := Hv'; clear Hv'
      have Hubk' := Lib.hid (Hubk.out.below hb); clear Hubk; have Hubk := Hubk'; clear Hubk'
      have Hvbk' := Lib.hid (Hvbk.out.below hb); clear Hvbk; have Hvbk := Hvbk'; clear Hvbk'
      have HB' := below_call HB hb; clear HB hb; have HB := HB'; clear HB'; have hz2 := HB.size
      have lt_x_2 := blk_lt Hx.out
      have lt_y_2 := blk_lt Hy.out
      have lt_k_2 := blk_lt Hk.out
      have lt_u_2 := blk_lt Hu.out
      have lt_v_2 := blk_lt Hv.out
      have Sv := cells13 Hv.out
      obtain ⟨⟨qv0, qv1, qv2, qv3, qv4, qv5, qv6, qv7, qv8, qv9, qv10, qv11, qv12⟩, zv0, zv1, zv2, zv3, zv4, zv5, zv6, zv7, zv8, zv9, zv10, zv11, zv12⟩ := Sv
      have lt_v := blk_lt Hv.out
      go_wp2_with fail
      refine (HEv.out _ Hvbk.out).mono ?_
      rintro e w3 ⟨rfl, hb⟩
      clear qv0 zv0 qv1 zv1 qv2 zv2 qv3 zv3 qv4 zv4 qv5 zv5 qv6 zv6 qv7 zv7 qv8 zv8 qv9 zv9 qv10 zv10 qv11 zv11 qv12 zv12
      have Hx' := Lib.hid (bblock hb Hx.out); clear Hx; have Hx := Hx'; clear Hx'
      have Hy' := Lib.hid (bblock hb Hy.out); clear Hy; have Hy := Hy'; clear Hy'
      have Hk' := Lib.hid (bblock hb Hk.out); clear Hk; have Hk := Hk'; clear Hk'
      have Hu' := Lib.hid (bblock hb Hu.out); clear Hu; have Hu := Hu'; clear Hu'
      have Hv' := Lib.hid (bblock hb Hv.out); clear Hv; have Hv := Hv'; clear Hv'
      have Hubk' := Lib.hid (Hubk.out.below hb); clear Hubk; have Hubk := Hubk'; clear Hubk'
      have Hvbk' := Lib.hid (Hvbk.out.below hb); clear Hvbk; have Hvbk := Hvbk'; clear Hvbk'
      have HB' := below_call HB hb; clear HB hb; have HB := HB'; clear HB'; have hz3 := HB.size
      have lt_x_3 := blk_lt Hx.out
      have lt_y_3 := blk_lt Hy.out
      have lt_k_3 := blk_lt Hk.out
      have lt_u_3 := blk_lt Hu.out
      have lt_v_3 := blk_lt Hv.out
      go_wp2_with fail
      refine (HD.out _).mono ?_
      rintro e w4 ⟨⟨Ac, cc, rfl, hbkc⟩, hb⟩
      have Hx' := Lib.hid (bblock hb Hx.out); clear Hx; have Hx := Hx'; clear Hx'
      have Hy' := Lib.hid (bblock hb Hy.out); clear Hy; have Hy := Hy'; clear Hy'
      have Hk' := Lib.hid (bblock hb Hk.out); clear Hk; have Hk := Hk'; clear Hk'
      have Hu' := Lib.hid (bblock hb Hu.out); clear Hu; have Hu := Hu'; clear Hu'
      have Hv' := Lib.hid (bblock hb Hv.out); clear Hv; have Hv := Hv'; clear Hv'
      have Hubk' := Lib.hid (Hubk.out.below hb); clear Hubk; have Hubk := Hubk'; clear Hubk'
      have Hvbk' := Lib.hid (Hvbk.out.below hb); clear Hvbk; have Hvbk := Hvbk'; clear Hvbk'
      have HB' := below_call HB hb; clear HB hb; have HB := HB'; clear HB'; have hz4 := HB.size
      have lt_x_4 := blk_lt Hx.out
      have lt_y_4 := blk_lt Hy.out
      have lt_k_4 := blk_lt Hk.out
      have lt_u_4 := blk_lt Hu.out
      have lt_v_4 := blk_lt Hv.out
      have Hcbk := Lib.hid hbkc; clear hbkc
      have Hc := Lib.hid (alloc_new' w4 (.cells #[.int .i64 u.fp, .int .i64 u.tp, .int .i64 u.sq, .int .i64 u.ack, .bool u.syn, .bool u.fin, .bool u.rst, .bool u.ha, .int .i64 u.win, .int .i64 u.mss, .bool u.sacks, .slice Ac u.bl.length cc, .string u.s] 24) (w4.heap.size) (by simp))
      have Hx' := Lib.hid (block_alloc Hx.out (.cells #[.int .i64 u.fp, .int .i64 u.tp, .int .i64 u.sq, .int .i64 u.ack, .bool u.syn, .bool u.fin, .bool u.rst, .bool u.ha, .int .i64 u.win, .int .i64 u.mss, .bool u.sacks, .slice Ac u.bl.length cc, .string u.s] 24)); clear Hx; have Hx := Hx'; clear Hx'
      have Hy' := Lib.hid (block_alloc Hy.out (.cells #[.int .i64 u.fp, .int .i64 u.tp, .int .i64 u.sq, .int .i64 u.ack, .bool u.syn, .bool u.fin, .bool u.rst, .bool u.ha, .int .i64 u.win, .int .i64 u.mss, .bool u.sacks, .slice Ac u.bl.length cc, .string u.s] 24)); clear Hy; have Hy := Hy'; clear Hy'
      have Hk' := Lib.hid (block_alloc Hk.out (.cells #[.int .i64 u.fp, .int .i64 u.tp, .int .i64 u.sq, .int .i64 u.ack, .bool u.syn, .bool u.fin, .bool u.rst, .bool u.ha, .int .i64 u.win, .int .i64 u.mss, .bool u.sacks, .slice Ac u.bl.length cc, .string u.s] 24)); clear Hk; have Hk := Hk'; clear Hk'
      have Hu' := Lib.hid (block_alloc Hu.out (.cells #[.int .i64 u.fp, .int .i64 u.tp, .int .i64 u.sq, .int .i64 u.ack, .bool u.syn, .bool u.fin, .bool u.rst, .bool u.ha, .int .i64 u.win, .int .i64 u.mss, .bool u.sacks, .slice Ac u.bl.length cc, .string u.s] 24)); clear Hu; have Hu := Hu'; clear Hu'
      have Hv' := Lib.hid (block_alloc Hv.out (.cells #[.int .i64 u.fp, .int .i64 u.tp, .int .i64 u.sq, .int .i64 u.ack, .bool u.syn, .bool u.fin, .bool u.rst, .bool u.ha, .int .i64 u.win, .int .i64 u.mss, .bool u.sacks, .slice Ac u.bl.length cc, .string u.s] 24)); clear Hv; have Hv := Hv'; clear Hv'
      have Hubk' := Lib.hid (Hubk.out.alloc (.cells #[.int .i64 u.fp, .int .i64 u.tp, .int .i64 u.sq, .int .i64 u.ack, .bool u.syn, .bool u.fin, .bool u.rst, .bool u.ha, .int .i64 u.win, .int .i64 u.mss, .bool u.sacks, .slice Ac u.bl.length cc, .string u.s] 24)); clear Hubk; have Hubk := Hubk'; clear Hubk'
      have Hvbk' := Lib.hid (Hvbk.out.alloc (.cells #[.int .i64 u.fp, .int .i64 u.tp, .int .i64 u.sq, .int .i64 u.ack, .bool u.syn, .bool u.fin, .bool u.rst, .bool u.ha, .int .i64 u.win, .int .i64 u.mss, .bool u.sacks, .slice Ac u.bl.length cc, .string u.s] 24)); clear Hvbk; have Hvbk := Hvbk'; clear Hvbk'
      have Hcbk' := Lib.hid (Hcbk.out.alloc (.cells #[.int .i64 u.fp, .int .i64 u.tp, .int .i64 u.sq, .int .i64 u.ack, .bool u.syn, .bool u.fin, .bool u.rst, .bool u.ha, .int .i64 u.win, .int .i64 u.mss, .bool u.sacks, .slice Ac u.bl.length cc, .string u.s] 24)); clear Hcbk; have Hcbk := Hcbk'; clear Hcbk'
      have HB' := below_alloc (o := .cells #[.int .i64 u.fp, .int .i64 u.tp, .int .i64 u.sq, .int .i64 u.ack, .bool u.syn, .bool u.fin, .bool u.rst, .bool u.ha, .int .i64 u.win, .int .i64 u.mss, .bool u.sacks, .slice Ac u.bl.length cc, .string u.s] 24) HB; clear HB; have HB := HB'; clear HB'
      have Sc := cells13 Hc.out
      obtain ⟨⟨qc0, qc1, qc2, qc3, qc4, qc5, qc6, qc7, qc8, qc9, qc10, qc11, qc12⟩, zc0, zc1, zc2, zc3, zc4, zc5, zc6, zc7, zc8, zc9, zc10, zc11, zc12⟩ := Sc
      have lt_c := blk_lt Hc.out
      have Su := cells13 Hu.out
      obtain ⟨⟨qu0, qu1, qu2, qu3, qu4, qu5, qu6, qu7, qu8, qu9, qu10, qu11, qu12⟩, zu0, zu1, zu2, zu3, zu4, zu5, zu6, zu7, zu8, zu9, zu10, zu11, zu12⟩ := Su
      have lt_u := blk_lt Hu.out
      go_wp2_with fail
      refine (HSM.out _ _ _ Hcbk.out Hubk.out).mono ?_
      rintro e w5 ⟨rfl, hb⟩
      clear qc0 zc0 qc1 zc1 qc2 zc2 qc3 zc3 qc4 zc4 qc5 zc5 qc6 zc6 qc7 zc7 qc8 zc8 qc9 zc9 qc10 zc10 qc11 zc11 qc12 zc12
      clear qu0 zu0 qu1 zu1 qu2 zu2 qu3 zu3 qu4 zu4 qu5 zu5 qu6 zu6 qu7 zu7 qu8 zu8 qu9 zu9 qu10 zu10 qu11 zu11 qu12 zu12
      have Hx' := Lib.hid (bblock hb Hx.out); clear Hx; have Hx := Hx'; clear Hx'
      have Hy' := Lib.hid (bblock hb Hy.out); clear Hy; have Hy := Hy'; clear Hy'
      have Hk' := Lib.hid (bblock hb Hk.out); clear Hk; have Hk := Hk'; clear Hk'
      have Hu' := Lib.hid (bblock hb Hu.out); clear Hu; have Hu := Hu'; clear Hu'
      have Hv' := Lib.hid (bblock hb Hv.out); clear Hv; have Hv := Hv'; clear Hv'
      have Hc' := Lib.hid (bblock hb Hc.out); clear Hc; have Hc := Hc'; clear Hc'
      have Hubk' := Lib.hid (Hubk.out.below hb); clear Hubk; have Hubk := Hubk'; clear Hubk'
      have Hvbk' := Lib.hid (Hvbk.out.below hb); clear Hvbk; have Hvbk := Hvbk'; clear Hvbk'
      have Hcbk' := Lib.hid (Hcbk.out.below hb); clear Hcbk; have Hcbk := Hcbk'; clear Hcbk'
      have HB' := below_call HB hb; clear HB hb; have HB := HB'; clear HB'; have hz5 := HB.size
      have lt_x_5 := blk_lt Hx.out
      have lt_y_5 := blk_lt Hy.out
      have lt_k_5 := blk_lt Hk.out
      have lt_u_5 := blk_lt Hu.out
      have lt_v_5 := blk_lt Hv.out
      have lt_c_5 := blk_lt Hc.out
      have Su := cells13 Hu.out
      obtain ⟨⟨qu0, qu1, qu2, qu3, qu4, qu5, qu6, qu7, qu8, qu9, qu10, qu11, qu12⟩, zu0, zu1, zu2, zu3, zu4, zu5, zu6, zu7, zu8, zu9, zu10, zu11, zu12⟩ := Su
      have lt_u := blk_lt Hu.out
      have Sv := cells13 Hv.out
      obtain ⟨⟨qv0, qv1, qv2, qv3, qv4, qv5, qv6, qv7, qv8, qv9, qv10, qv11, qv12⟩, zv0, zv1, zv2, zv3, zv4, zv5, zv6, zv7, zv8, zv9, zv10, zv11, zv12⟩ := Sv
      have lt_v := blk_lt Hv.out
      go_wp2_with fail
      refine (HRS.out _ Hubk.out Hvbk.out).mono ?_
      rintro e w6 ⟨rfl, hb⟩
      clear qu0 zu0 qu1 zu1 qu2 zu2 qu3 zu3 qu4 zu4 qu5 zu5 qu6 zu6 qu7 zu7 qu8 zu8 qu9 zu9 qu10 zu10 qu11 zu11 qu12 zu12
      clear qv0 zv0 qv1 zv1 qv2 zv2 qv3 zv3 qv4 zv4 qv5 zv5 qv6 zv6 qv7 zv7 qv8 zv8 qv9 zv9 qv10 zv10 qv11 zv11 qv12 zv12
      have Hx' := Lib.hid (bblock hb Hx.out); clear Hx; have Hx := Hx'; clear Hx'
      have Hy' := Lib.hid (bblock hb Hy.out); clear Hy; have Hy := Hy'; clear Hy'
      have Hk' := Lib.hid (bblock hb Hk.out); clear Hk; have Hk := Hk'; clear Hk'
      have Hu' := Lib.hid (bblock hb Hu.out); clear Hu; have Hu := Hu'; clear Hu'
      have Hv' := Lib.hid (bblock hb Hv.out); clear Hv; have Hv := Hv'; clear Hv'
      have Hc' := Lib.hid (bblock hb Hc.out); clear Hc; have Hc := Hc'; clear Hc'
      have Hubk' := Lib.hid (Hubk.out.below hb); clear Hubk; have Hubk := Hubk'; clear Hubk'
      have Hvbk' := Lib.hid (Hvbk.out.below hb); clear Hvbk; have Hvbk := Hvbk'; clear Hvbk'
      have Hcbk' := Lib.hid (Hcbk.out.below hb); clear Hcbk; have Hcbk := Hcbk'; clear Hcbk'
      have HB' := below_call HB hb; clear HB hb; have HB := HB'; clear HB'; have hz6 := HB.size
      have lt_x_6 := blk_lt Hx.out
      have lt_y_6 := blk_lt Hy.out
      have lt_k_6 := blk_lt Hk.out
      have lt_u_6 := blk_lt Hu.out
      have lt_v_6 := blk_lt Hv.out
      have lt_c_6 := blk_lt Hc.out
      have hEq := HEq.out
      have hE1 : ((E1.length : Int) == 20 + 8 * (u.bl.length : Int) + (u.s.size : Int)) = true := by rw [HE1.out]; simp
      have hus : u.s.size ≤ 1100 := by have := HE1.out; omega
      have Su := cells13 Hu.out
      obtain ⟨⟨qu0, qu1, qu2, qu3, qu4, qu5, qu6, qu7, qu8, qu9, qu10, qu11, qu12⟩, zu0, zu1, zu2, zu3, zu4, zu5, zu6, zu7, zu8, zu9, zu10, zu11, zu12⟩ := Su
      have lt_u := blk_lt Hu.out
      go_wp2_with fail
      refine (HVA.out _ Hubk.out).mono ?_
      rintro e w7 ⟨rfl, hb⟩
      clear qu0 zu0 qu1 zu1 qu2 zu2 qu3 zu3 qu4 zu4 qu5 zu5 qu6 zu6 qu7 zu7 qu8 zu8 qu9 zu9 qu10 zu10 qu11 zu11 qu12 zu12
      have Hx' := Lib.hid (bblock hb Hx.out); clear Hx; have Hx := Hx'; clear Hx'
      have Hy' := Lib.hid (bblock hb Hy.out); clear Hy; have Hy := Hy'; clear Hy'
      have Hk' := Lib.hid (bblock hb Hk.out); clear Hk; have Hk := Hk'; clear Hk'
      have Hu' := Lib.hid (bblock hb Hu.out); clear Hu; have Hu := Hu'; clear Hu'
      have Hv' := Lib.hid (bblock hb Hv.out); clear Hv; have Hv := Hv'; clear Hv'
      have Hc' := Lib.hid (bblock hb Hc.out); clear Hc; have Hc := Hc'; clear Hc'
      have Hubk' := Lib.hid (Hubk.out.below hb); clear Hubk; have Hubk := Hubk'; clear Hubk'
      have Hvbk' := Lib.hid (Hvbk.out.below hb); clear Hvbk; have Hvbk := Hvbk'; clear Hvbk'
      have Hcbk' := Lib.hid (Hcbk.out.below hb); clear Hcbk; have Hcbk := Hcbk'; clear Hcbk'
      have HB' := below_call HB hb; clear HB hb; have HB := HB'; clear HB'; have hz7 := HB.size
      have lt_x_7 := blk_lt Hx.out
      have lt_y_7 := blk_lt Hy.out
      have lt_k_7 := blk_lt Hk.out
      have lt_u_7 := blk_lt Hu.out
      have lt_v_7 := blk_lt Hv.out
      have lt_c_7 := blk_lt Hc.out
      go_wp2_with fail
      go_ret
      exact ⟨rfl, HB⟩
end Go.Proofs.Ytkinlmanimdlcaa.Sg
