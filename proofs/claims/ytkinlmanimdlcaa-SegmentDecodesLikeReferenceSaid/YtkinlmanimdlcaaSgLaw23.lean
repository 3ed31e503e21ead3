/-
  The walk of the law SegmentDecodesLikeReference of chapter 11.
-/
import Derived.Test.YtkinlmanimdlcaaSgArg
import Derived.Test.YtkinlmanimdlcaaSgEx
import Derived.Test.YtkinlmanimdlcaaSgRd
import Derived.Test.YtkinlmanimdlcaaHeld
import Derived.Deep.RegionHeld3
import Derived.IntWalk
import Derived.Deep.QuietTactic
namespace Go.Proofs.Ytkinlmanimdlcaa.Sg
open Go.RowKit Go.Proofs.Ytkinlmanimdlcaa.Wire

set_option maxRecDepth 100000
/-- cut, with the cells laid open -/
def CutL (w : World) (e : Ending) (w' : World) : Prop := ∃ (x : Seg) (A : Option Addr) (c : Nat), x.raw ∧ e = .returned (.agg #[.int .i64 x.fp, .int .i64 x.tp, .int .i64 x.sq, .int .i64 x.ack, .bool x.syn, .bool x.fin, .bool x.rst, .bool x.ha, .int .i64 x.win, .int .i64 x.mss, .bool x.sacks, .slice A x.bl.length c, .string x.s]) ∧ Bks w' A x.bl.length x.bl ∧ Below w.heap.size w w'
theorem cutL_any (fp tp sq ack : Int) (syn fin rst ha : Bool) (win mss : Int) (sacks : Bool) (A : Option Addr) (n c : Nat) (bl : List (Int × Int)) (s : ByteArray) (w : World) (hfp : In64 fp) (htp : In64 tp) (hsq : In64 sq) (hack : In64 ack) (hwin : In64 win) (hmss : In64 mss) (hA : ArgB w A n c bl) :
    Calls Try.prog 11 #[.agg #[.int .i64 fp, .int .i64 tp, .int .i64 sq, .int .i64 ack, .bool syn, .bool fin, .bool rst, .bool ha, .int .i64 win, .int .i64 mss, .bool sacks, .slice A n c, .string s]] w (CutL w) := cut_any fp tp sq ack syn fin rst ha win mss sacks A n c bl s w hfp htp hsq hack hwin hmss hA
/-- what a Decode returns: some segment and an error -/
def DcP (x : Seg) (en : Int) (w : World) (e : Ending) (w' : World) : Prop := (∃ (A : Option Addr) (c : Nat), e = .returned (.tuple #[.agg #[.int .i64 x.fp, .int .i64 x.tp, .int .i64 x.sq, .int .i64 x.ack, .bool x.syn, .bool x.fin, .bool x.rst, .bool x.ha, .int .i64 x.win, .int .i64 x.mss, .bool x.sacks, .slice A x.bl.length c, .string x.s], .int .i64 en]) ∧ Bks w' A x.bl.length x.bl) ∧ Below w.heap.size w w'
theorem dc_zero (en : Int) (w : World) (e : Ending) (w' : World) (h : e = .returned (.tuple #[zeroSeg, .int .i64 en]) ∧ Below w.heap.size w w') : DcP segZ en w e w' := ⟨⟨none, 0, h.1, bks_nil _ _⟩, h.2⟩
theorem dc_some (x : Seg) (w : World) (e : Ending) (w' : World) (h : ∃ (A : Option Addr) (c : Nat), e = .returned (.tuple #[x.val A c, .int .i64 0]) ∧ Bks w' A x.bl.length x.bl ∧ Below w.heap.size w w') : DcP x 0 w e w' := by
  obtain ⟨A, c, h1, h2, h3⟩ := h
  exact ⟨⟨A, c, h1, h2⟩, h3⟩
theorem dec_both (f d : Int) (t : ByteArray) (ht : t.size ≤ 9223372036854775807) : ∃ (x : Seg) (en : Int), x.bl.length ≤ 255 ∧ (∀ w, Calls Try.prog 22 #[.int .i64 f, .int .i64 d, .string t] w (DcP x en w)) ∧ ∀ w, Calls Try.prog 23 #[.int .i64 f, .int .i64 d, .string t] w (DcP x en w) := by
  by_cases h : Adr f ∧ Adr d
  · by_cases hd : decOk f d t
    · refine ⟨dec t, 0, ?_, fun w => (Dec_yes f d t w ht h.1 h.2 hd).mono (fun e w' q => dc_some _ _ _ _ q), fun w => (rdec_any f d t w ht h.1 h.2).mono (fun e w' q => ?_)⟩
      · have hl : (dec t).bl.length = many t := blAt_length _ _
        have := many_le t
        omega
      · rcases q with q | q
        · exact dc_some _ _ _ _ q.2
        · exact absurd hd q.1
    · refine ⟨segZ, 110, by decide, fun w => (Dec_no f d t w ht h.1 h.2 hd).mono (fun e w' q => dc_zero _ _ _ _ q), fun w => (rdec_any f d t w ht h.1 h.2).mono (fun e w' q => ?_)⟩
      rcases q with q | q
      · exact absurd q.1 hd
      · exact dc_zero _ _ _ _ q.2
  · exact ⟨segZ, 30, by decide, fun w => (Decode_noaddr f d t w h).mono (fun e w' q => dc_zero _ _ _ _ q), fun w => (rdec_noaddr f d t w h).mono (fun e w' q => dc_zero _ _ _ _ q)⟩
theorem cells5s {W : World} {bk k : Nat} {E : List UInt8} {few : ByteArray} {by_ : Int} (hb : W.heap[bk]? = some (.cells #[.string few, .string ⟨E.toArray⟩, .string ((⟨E.toArray⟩ : ByteArray).extract 0 k), .string ((⟨E.toArray⟩ : ByteArray).extract 0 k ++ ⟨#[UInt8.ofNat by_.toNat]⟩ ++ (⟨E.toArray⟩ : ByteArray).extract (k + 1) E.length), .string (⟨E.toArray⟩ ++ few)] 9)) (hE : E.length ≤ 1100) (hf : few.size ≤ 1100) (j : Nat) (hj : j < 5) :
    ∃ s : ByteArray, s.size ≤ 9223372036854775807 ∧ W.cell? ⟨bk, j, none⟩ = some (.string s) := by
  match j, hj with
  | 0, _ => exact ⟨_, by omega, (cell_of_block hb rfl).1⟩
  | 1, _ => exact ⟨_, by simp only [sz]; omega, (cell_of_block hb rfl).1⟩
  | 2, _ => exact ⟨_, by simp only [sz, ByteArray.size_extract]; omega, (cell_of_block hb rfl).1⟩
  | 3, _ => exact ⟨_, by simp [sz, ByteArray.size_append, ByteArray.size_extract]; omega, (cell_of_block hb rfl).1⟩
  | 4, _ => exact ⟨_, by simp only [sz, ByteArray.size_append]; omega, (cell_of_block hb rfl).1⟩
theorem cells6i {W : World} {bk : Nat} {a0 a1 a2 a3 a4 a5 : Int} (hb : W.heap[bk]? = some (.cells #[.int .i64 a0, .int .i64 a1, .int .i64 a2, .int .i64 a3, .int .i64 a4, .int .i64 a5] 40)) (j : Nat) (hj : j < 3) :
    ∃ f d : Int, W.cell? ⟨bk, j * 2, none⟩ = some (.int .i64 f) ∧ W.cell? ⟨bk, j * 2 + 1, none⟩ = some (.int .i64 d) := by
  match j, hj with
  | 0, _ => exact ⟨_, _, (cell_of_block hb rfl).1, (cell_of_block hb rfl).1⟩
  | 1, _ => exact ⟨_, _, (cell_of_block hb rfl).1, (cell_of_block hb rfl).1⟩
  | 2, _ => exact ⟨_, _, (cell_of_block hb rfl).1, (cell_of_block hb rfl).1⟩
theorem build2 (a b : Int) (w : World) : (Instr.build 40 #[(0, .int .i64 a), (1, .int .i64 b)]).run Try.prog w = .ok (.agg #[.int .i64 a, .int .i64 b]) w := by kernel_rfl
theorem slice3 (a0 a1 a2 a3 a4 a5 : Int) (w : World) : (Instr.buildSlice 41 3 #[(0, .agg #[.int .i64 a0, .int .i64 a1]), (1, .agg #[.int .i64 a2, .int .i64 a3]), (2, .agg #[.int .i64 a4, .int .i64 a5])]).run Try.prog w = .ok (.slice (some ⟨w.heap.size, 0, none⟩) 3 3) (w.alloc (.cells #[.int .i64 a0, .int .i64 a1, .int .i64 a2, .int .i64 a3, .int .i64 a4, .int .i64 a5] 40)) := by kernel_rfl
theorem oper_slice3 {o : Oper} {a : Act} {next : Act → World → Prop} {Q : Exit → Act → World → Prop} {w : World} {x y z : Operand} {a0 a1 a2 a3 a4 a5 : Int} (hop : o.op = Op.buildSlice 41 3 #[(0, x), (1, y), (2, z)]) (hx : a.eval x = .agg #[.int .i64 a0, .int .i64 a1]) (hy : a.eval y = .agg #[.int .i64 a2, .int .i64 a3]) (hz : a.eval z = .agg #[.int .i64 a4, .int .i64 a5])
    (hk : next (a.put o.dst (.slice (some ⟨w.heap.size, 0, none⟩) 3 3)) (w.alloc (.cells #[.int .i64 a0, .int .i64 a1, .int .i64 a2, .int .i64 a3, .int .i64 a4, .int .i64 a5] 40))) : Oper.wp Try.prog o a w next Q := by
  have h : execOp a.eval o = (do pure (Next.value (← Instr.buildSlice 41 3 #[(0, .agg #[.int .i64 a0, .int .i64 a1]), (1, .agg #[.int .i64 a2, .int .i64 a3]), (2, .agg #[.int .i64 a4, .int .i64 a5])]))) := by
    unfold execOp
    rw [hop]
    simp [hx, hy, hz]
  unfold Oper.wp
  rw [h, Sem.run_bind, slice3]
  exact hk
theorem sameB_self (x : Seg) : sameB x x = true := (sameB_iff x x).2 rfl
set_option maxRecDepth 100000 in
set_option maxHeartbeats 40000000 in
theorem law23_any (xfp xtp xsq xack : Int) (xsyn xfin xrst xha : Bool) (xwin xmss : Int) (xsacks : Bool) (xA : Option Addr) (xn xc : Nat) (xbl : List (Int × Int)) (xs : ByteArray) (kind : Int) (s : ByteArray) (at_ by_ from_ to_ : Int) (w : World) (hx : In64 xfp ∧ In64 xtp ∧ In64 xsq ∧ In64 xack ∧ In64 xwin ∧ In64 xmss) (hAx : ArgB w xA xn xc xbl) (hkind : In64 kind) (hs : s.size ≤ 9223372036854775807) (hat : In64 at_) (hf : In64 from_) (ht : In64 to_) :
    Calls Try.prog 4 #[.agg #[.int .i64 xfp, .int .i64 xtp, .int .i64 xsq, .int .i64 xack, .bool xsyn, .bool xfin, .bool xrst, .bool xha, .int .i64 xwin, .int .i64 xmss, .bool xsacks, .slice xA xn xc, .string xs], .int .i64 kind, .string s, .int .i64 at_, .int .u8 by_, .int .i64 from_, .int .i64 to_] w fun e w' => e = .returned (.bool true) ∧ Below w.heap.size w w' := by
  have HCx := Lib.hid fun W (hA : ArgB W xA xn xc xbl) => cutL_any xfp xtp xsq xack xsyn xfin xrst xha xwin xmss xsacks xA xn xc xbl xs W hx.1 hx.2.1 hx.2.2.1 hx.2.2.2.1 hx.2.2.2.2.1 hx.2.2.2.2.2 hA
  have HS := Lib.hid fun x A c W (hx : Seg.raw x) hb => segOf_lit x A c kind W hx hkind hb
  have hp := pick_lt from_ 4294967296 (by omega)
  have hq := pick_lt to_ 4294967296 (by omega)
  have HP := Lib.hid fun W => pick_any from_ 4294967296 W hf.1 hf.2 (by omega) (by omega)
  have HQ := Lib.hid fun W => pick_any to_ 4294967296 W ht.1 ht.2 (by omega) (by omega)
  generalize pick from_ 4294967296 = p at *
  generalize pick to_ 4294967296 = q at *
  clear hx hkind hf ht
  have HAx := Lib.hid hAx; clear hAx
  have HB := Below.refl w.heap.size w
  have Hx := Lib.hid (alloc_new' w (.cells #[.int .i64 xfp, .int .i64 xtp, .int .i64 xsq, .int .i64 xack, .bool xsyn, .bool xfin, .bool xrst, .bool xha, .int .i64 xwin, .int .i64 xmss, .bool xsacks, .slice xA xn xc, .string xs] 24) (w.heap.size) (by simp))
  have HB' := below_alloc (o := .cells #[.int .i64 xfp, .int .i64 xtp, .int .i64 xsq, .int .i64 xack, .bool xsyn, .bool xfin, .bool xrst, .bool xha, .int .i64 xwin, .int .i64 xmss, .bool xsacks, .slice xA xn xc, .string xs] 24) HB; clear HB; have HB := HB'; clear HB'
  go_enter Try.func4, Try.ntmps4
  go_wp2_with fail
  refine (examples_any _).mono ?_
  rintro e w1 ⟨rfl, hb⟩
  have Hx' := Lib.hid (bblock hb Hx.out); clear Hx; have Hx := Hx'; clear Hx'
  have HB' := below_call HB hb; clear HB hb; have HB := HB'; clear HB'; have hz1 := HB.size
  have lt_x_1 := blk_lt Hx.out
  go_wp2_with fail
  refine (HP.out _).mono ?_
  rintro e w' ⟨rfl, rfl⟩
  go_wp2_with fail
  refine (HQ.out _).mono ?_
  rintro e w' ⟨rfl, rfl⟩
  have Sx := cells13 Hx.out
  obtain ⟨⟨qx0, qx1, qx2, qx3, qx4, qx5, qx6, qx7, qx8, qx9, qx10, qx11, qx12⟩, zx0, zx1, zx2, zx3, zx4, zx5, zx6, zx7, zx8, zx9, zx10, zx11, zx12⟩ := Sx
  have lt_x := blk_lt Hx.out
  go_wp2_with fail
  refine (HCx.out _ (HAx.out.below HB)).mono ?_
  rintro e w2 ⟨u, Au, cu, hu, rfl, hubk, hb⟩
  clear qx0 zx0 qx1 zx1 qx2 zx2 qx3 zx3 qx4 zx4 qx5 zx5 qx6 zx6 qx7 zx7 qx8 zx8 qx9 zx9 qx10 zx10 qx11 zx11 qx12 zx12
  have Hx' := Lib.hid (bblock hb Hx.out); clear Hx; have Hx := Hx'; clear Hx'
  have HB' := below_call HB hb; clear HB hb; have HB := HB'; clear HB'; have hz2 := HB.size
  have lt_x_2 := blk_lt Hx.out
  have Hu0 := Lib.hid hu; have Hubk := Lib.hid hubk; clear hu hubk
  go_wp2_with fail
  refine (HS.out u Au cu _ Hu0.out Hubk.out).mono ?_
  rintro e w3 ⟨v, Av, cv, hv, rfl, hvbk, hb⟩
  have Hx' := Lib.hid (bblock hb Hx.out); clear Hx; have Hx := Hx'; clear Hx'
  have Hubk' := Lib.hid (Hubk.out.below hb); clear Hubk; have Hubk := Hubk'; clear Hubk'
  have HB' := below_call HB hb; clear HB hb; have HB := HB'; clear HB'; have hz3 := HB.size
  have lt_x_3 := blk_lt Hx.out
  have Hv0 := Lib.hid hv; have Hvbk := Lib.hid hvbk; clear hv hvbk
  have HE0 : Hid (∀ W, Bks W Av v.bl.length v.bl → Calls Try.prog 15 #[.int .i64 p, .int .i64 q, .agg #[.int .i64 v.fp, .int .i64 v.tp, .int .i64 v.sq, .int .i64 v.ack, .bool v.syn, .bool v.fin, .bool v.rst, .bool v.ha, .int .i64 v.win, .int .i64 v.mss, .bool v.sacks, .slice Av v.bl.length cv, .string v.s]] W fun e w' => e = .returned (.tuple #[.string ⟨(v.enc p q).toArray⟩, .int .i64 0]) ∧ Below W.heap.size W w') := Lib.hid fun W hb => REncode_ok p q v.fp v.tp v.sq v.ack v.syn v.fin v.rst v.ha v.win v.mss v.sacks Av v.bl.length cv v.bl v.s W ⟨hp.1, by omega⟩ ⟨hq.1, by omega⟩ Hv0.out hb
  have hE1 := enc_le p q v Hv0.out
  have hE2 : 20 ≤ (v.enc p q).length := by rw [enc_length]; omega
  generalize v.enc p q = E at *
  go_wp2_with fail
  refine (HE0.out _ Hvbk.out).mono ?_
  rintro e w4 ⟨rfl, hb⟩
  have Hx' := Lib.hid (bblock hb Hx.out); clear Hx; have Hx := Hx'; clear Hx'
  have Hubk' := Lib.hid (Hubk.out.below hb); clear Hubk; have Hubk := Hubk'; clear Hubk'
  have Hvbk' := Lib.hid (Hvbk.out.below hb); clear Hvbk; have Hvbk := Hvbk'; clear Hvbk'
  have HB' := below_call HB hb; clear HB hb; have HB := HB'; clear HB'; have hz4 := HB.size
  have lt_x_4 := blk_lt Hx.out
  clear Hvbk Hubk Hu0 Hv0 HE0 HCx HS HAx Hx
  go_wp2_with fail
  rw [show max ((E.length : Int)) 1 = (E.length : Int) from by omega]
  have hkb := pick_lt at_ (E.length : Int) (by omega)
  have HK := Lib.hid fun w => pick_any at_ (E.length : Int) w hat.1 hat.2 (by omega) (by omega)
  obtain ⟨k, hk⟩ := Int.eq_ofNat_of_zero_le hkb.1
  rw [hk] at hkb HK; clear hk
  refine (HK.out _).mono ?_
  rintro e w' ⟨rfl, rfl⟩
  have hmn : (0 : Int) ≤ min (s.size : Int) 1100 := by omega
  have hmm : min (s.size : Int) 1100 ≤ (s.size : Int) := by omega
  go_upto_region 9 with fail
  generalize hfew : s.extract 0 (min (s.size : Int) 1100).toNat = few at *
  have hfs : few.size ≤ 1100 := by rw [← hfew]; simp; omega
  clear hfew hmn hmm
  have b1 : (0 : Int) ≤ (k : Int) := by omega
  have b3 : (k : Int) ≤ (E.length : Int) := by omega
  have b4 : (k : Int) + 1 ≤ (E.length : Int) := by omega
  have b5 : (0 : Int) ≤ (k : Int) + 1 := by omega
  have b6 : IntKind.i64.wrap ((k : Int) + 1) = (k : Int) + 1 := IntWalk.i64_in _ (by omega)
  have b7 : ((k : Int) + 1).toNat = k + 1 := by omega
  have b8 : min ((k : Int) + 1) (E.length : Int) = (k : Int) + 1 := by omega
  have q1 : ¬ 9223372036854775807 < E.length + few.size := by omega
  have q2 : ¬ 9223372036854775807 < min k E.length + 1 := by omega
  have q3 : ¬ 9223372036854775807 < min k E.length + 1 + (E.length - (k + 1)) := by omega
  have q4 : ¬ 9223372036854775807 < k + 1 := by omega
  have q5 : ¬ 9223372036854775807 < k + 1 + (E.length - (k + 1)) := by omega
  have hcv := conv_one
  go_cut [80, 81, 82] (fun s80 s81 s82 wx => s80 = .slice (some ⟨w4.heap.size + 1, 0, none⟩) 5 5 ∧ s81 = .int .i64 5 ∧ s82 = .int .i64 0 ∧ Below w.heap.size w wx ∧ wx.heap[w4.heap.size + 1]? = some (.cells #[.string few, .string ⟨E.toArray⟩, .string ((⟨E.toArray⟩ : ByteArray).extract 0 k), .string ((⟨E.toArray⟩ : ByteArray).extract 0 k ++ ⟨#[UInt8.ofNat by_.toNat]⟩ ++ (⟨E.toArray⟩ : ByteArray).extract (k + 1) E.length), .string (⟨E.toArray⟩ ++ few)] 9))
  case first =>
    refine wp_region_held_drew (S := fun w' => Below w.heap.size w w') (by kernel_rfl) HB.drew ?_
    intro hS
    refine wpAnyH_take (i := 0) (v := ?va0) rfl (by kernel_rfl) (by kernel_rfl) (by kernel_rfl) (fun _ _ _ h => h) (Or.inl ⟨by rfl, ?hya0⟩) (by exact hS) ?rea0
    case hya0 => (intro ww hSw; (try dsimp only at hSw); go_simp; first | done | with_reducible rfl)
    try simp only [Act.put]
    refine wpAnyH_take (i := 1) (v := ?va1) rfl (by kernel_rfl) (by kernel_rfl) (by kernel_rfl) (fun _ _ _ h => h) (Or.inl ⟨by rfl, ?hya1⟩) (by exact hS) ?rea1
    case hya1 => (intro ww hSw; (try dsimp only at hSw); go_simp; first | done | with_reducible rfl)
    try simp only [Act.put]
    refine wpAnyH_take (i := 2) (v := ?va2) rfl (by kernel_rfl) (by kernel_rfl) (by kernel_rfl) (fun _ _ _ h => h) (Or.inl ⟨by rfl, ?hya2⟩) (by exact hS) ?rea2
    case hya2 => (intro ww hSw; (try dsimp only at hSw); go_simp; first | done | with_reducible rfl)
    try simp only [Act.put]
    refine wpAnyH_take (i := 3) (v := ?va3) rfl (by kernel_rfl) (by kernel_rfl) (by kernel_rfl) (fun _ _ _ h => h) (Or.inl ⟨by rfl, ?hya3⟩) (by exact hS) ?rea3
    case hya3 => (intro ww hSw; (try dsimp only at hSw); go_simp; first | done | with_reducible rfl)
    try simp only [Act.put]
    refine wpAnyH_take (i := 4) (v := ?va4) rfl (by kernel_rfl) (by kernel_rfl) (by kernel_rfl) (fun _ _ _ h => h) (Or.inl ⟨by rfl, ?hya4⟩) (by exact hS) ?rea4
    case hya4 => (intro ww hSw; (try dsimp only at hSw); go_simp; first | done | with_reducible rfl)
    try simp only [Act.put]
    refine wpAnyH_take (i := 5) (v := ?va5) rfl (by kernel_rfl) (by kernel_rfl) (by kernel_rfl) (fun _ _ _ h => h) (Or.inl ⟨by rfl, ?hya5⟩) (by exact hS) ?rea5
    case hya5 => (intro ww hSw; (try dsimp only at hSw); go_simp; first | done | with_reducible rfl)
    try simp only [Act.put]
    refine wpAnyH_take (i := 6) (v := ?va6) rfl (by kernel_rfl) (by kernel_rfl) (by kernel_rfl) (fun _ _ _ h => h) (Or.inl ⟨by rfl, ?hya6⟩) (by exact hS) ?rea6
    case hya6 => (intro ww hSw; (try dsimp only at hSw); go_simp; first | done | with_reducible rfl)
    try simp only [Act.put]
    refine wpAnyH_take (i := 7) (v := ?va7) rfl (by kernel_rfl) (by kernel_rfl) (by kernel_rfl) (fun _ _ _ h => h) (Or.inl ⟨by rfl, ?hya7⟩) (by exact hS) ?rea7
    case hya7 => (intro ww hSw; (try dsimp only at hSw); go_simp; first | done | with_reducible rfl)
    try simp only [Act.put]
    refine wpAnyH_take (i := 8) (v := ?va8) rfl (by kernel_rfl) (by kernel_rfl) (by kernel_rfl) (fun _ _ _ h => h) (Or.inl ⟨by rfl, ?hya8⟩) (by exact hS) ?rea8
    case hya8 => (intro ww hSw; (try dsimp only at hSw); go_simp; first | done | with_reducible rfl)
    try simp only [Act.put]
    refine wpAnyH_take (i := 12) (v := ?va12) rfl (by kernel_rfl) (by kernel_rfl) (by kernel_rfl) (fun _ _ _ h => h) (Or.inl ⟨by rfl, ?hya12⟩) (by exact hS) ?rea12
    case hya12 => (intro ww hSw; (try dsimp only at hSw); go_simp; first | done | with_reducible rfl)
    try simp only [Act.put]
    refine wpAnyH_take (i := 13) (v := ?va13) rfl (by kernel_rfl) (by kernel_rfl) (by kernel_rfl) (fun _ _ _ h => h) (Or.inl ⟨by rfl, ?hya13⟩) (by exact hS) ?rea13
    case hya13 => (intro ww hSw; (try dsimp only at hSw); go_simp; first | done | with_reducible rfl)
    try simp only [Act.put]
    refine wpAnyH_take (i := 14) (v := ?va14) rfl (by kernel_rfl) (by kernel_rfl) (by kernel_rfl) (fun _ _ _ h => h) (Or.inl ⟨by rfl, ?hya14⟩) (by exact hS) ?rea14
    case hya14 => (intro ww hSw; (try dsimp only at hSw); go_simp; first | done | with_reducible rfl)
    try simp only [Act.put]
    refine wpAnyH_take (i := 15) (v := ?va15) rfl (by kernel_rfl) (by kernel_rfl) (by kernel_rfl) (fun _ _ _ h => h) (Or.inl ⟨by rfl, ?hya15⟩) (by exact hS) ?rea15
    case hya15 => (intro ww hSw; (try dsimp only at hSw); go_simp; first | done | with_reducible rfl)
    try simp only [Act.put]
    refine wpAnyH_take (i := 16) (v := ?va16) rfl (by kernel_rfl) (by kernel_rfl) (by kernel_rfl) (fun _ _ _ h => h) (Or.inl ⟨by rfl, ?hya16⟩) (by exact hS) ?rea16
    case hya16 => (intro ww hSw; (try dsimp only at hSw); go_simp; first | done | with_reducible rfl)
    try simp only [Act.put]
    refine wpAnyH_take (i := 17) (v := ?va17) rfl (by kernel_rfl) (by kernel_rfl) (by kernel_rfl) (fun _ _ _ h => h) (Or.inl ⟨by rfl, ?hya17⟩) (by exact hS) ?rea17
    case hya17 => (intro ww hSw; (try dsimp only at hSw); go_simp; first | done | with_reducible rfl)
    try simp only [Act.put]
    refine wpAnyH_take (i := 18) (v := ?va18) rfl (by kernel_rfl) (by kernel_rfl) (by kernel_rfl) (fun _ _ _ h => h) (Or.inl ⟨by rfl, ?hya18⟩) (by exact hS) ?rea18
    case hya18 => (intro ww hSw; (try dsimp only at hSw); go_simp; first | done | with_reducible rfl)
    try simp only [Act.put]
    refine wpAnyH_take (i := 20) (v := ?va20) rfl (by kernel_rfl) (by kernel_rfl) (by kernel_rfl) (fun _ _ _ h => h) (Or.inl ⟨by rfl, ?hya20⟩) (by exact hS) ?rea20
    case hya20 => (intro ww hSw; (try dsimp only at hSw); go_simp; first | done | with_reducible rfl)
    try simp only [Act.put]
    refine wpAnyH_take (i := 21) (v := ?va21) rfl (by kernel_rfl) (by kernel_rfl) (by kernel_rfl) (fun _ _ _ h => h) (Or.inl ⟨by rfl, ?hya21⟩) (by exact hS) ?rea21
    case hya21 => (intro ww hSw; (try dsimp only at hSw); go_simp; first | done | with_reducible rfl)
    try simp only [Act.put]
    refine wpAnyH_take (i := 22) (v := ?va22) rfl (by kernel_rfl) (by kernel_rfl) (by kernel_rfl) (fun _ _ _ h => h) (Or.inl ⟨by rfl, ?hya22⟩) (by exact hS) ?rea22
    case hya22 => (intro ww hSw; (try dsimp only at hSw); go_simp; first | done | with_reducible rfl)
    try simp only [Act.put]
    refine wpAnyH_take (i := 25) (v := ?va25) rfl (by kernel_rfl) (by kernel_rfl) (by kernel_rfl) (fun _ _ _ h => h) (Or.inl ⟨by rfl, ?hya25⟩) (by exact hS) ?rea25
    case hya25 => (intro ww hSw; (try dsimp only at hSw); go_simp; first | done | with_reducible rfl)
    try simp only [Act.put]
    refine wpAnyH_ready (rs := [9]) (by kernel_rfl) (by simp) ?_
    refine AllReadyH.cons rfl (fun Kx hKx => ?stx) AllReadyH.nil
    go_simp
    have c1 : ((w4).alloc (.cells #[.int .u8 by_] 5)).cell? ⟨w4.heap.size, 0, none⟩ = some (.int .u8 by_) := (cell_of_box (alloc_new _ _)).1
    have c1h := Lib.hid c1; clear c1
    refine hKx.out _ _ (below_alloc HB).drew (fun h1 => ?_)
    refine wpAnyH_sharpen (S1 := (fun w' : World => Below w.heap.size w w' ∧ w'.cell? ⟨w4.heap.size, 0, none⟩ = some (.int .u8 by_))) (fun _ h => h.1) _ _ _ _ ?_
    have hS1 : (fun w' : World => Below w.heap.size w w' ∧ w'.cell? ⟨w4.heap.size, 0, none⟩ = some (.int .u8 by_)) ((w4).alloc (.cells #[.int .u8 by_] 5)).drew := ⟨(below_alloc HB).drew, c1h.out⟩
    refine wpAnyH_take (i := 10) (v := ?vb10) rfl (by kernel_rfl) (by kernel_rfl) (by kernel_rfl) (fun _ _ _ h => h) (Or.inl ⟨by rfl, ?hyb10⟩) (by exact hS1) ?reb10
    case hyb10 => (intro ww hSw; (try dsimp only at hSw); go_simp; first | done | with_reducible rfl)
    try simp only [Act.put]
    refine wpAnyH_take (i := 11) (v := ?vb11) rfl (by kernel_rfl) (by kernel_rfl) (by kernel_rfl) (fun _ _ _ h => h) (Or.inl ⟨by rfl, ?hyb11⟩) (by exact hS1) ?reb11
    case hyb11 => (intro ww hSw; (try dsimp only at hSw); go_simp; first | done | with_reducible rfl)
    try simp only [Act.put]
    refine wpAnyH_take (i := 19) (v := ?vb19) rfl (by kernel_rfl) (by kernel_rfl) (by kernel_rfl) (fun _ _ _ h => h) (Or.inl ⟨by rfl, ?hyb19⟩) (by exact hS1) ?reb19
    case hyb19 => (intro ww hSw; (try dsimp only at hSw); go_simp; first | done | with_reducible rfl)
    try simp only [Act.put]
    refine wpAnyH_ready (rs := [23]) (by kernel_rfl) (by simp) ?_
    refine AllReadyH.cons rfl (fun Ky hKy => ?sty) AllReadyH.nil
    go_simp
    refine hKy.out _ _ ⟨(below_alloc (below_alloc HB)).drew, cell_alloc' _ c1h.out⟩ (fun h3 => ?_)
    refine wpAnyH_take (i := 24) (v := ?vf24) rfl (by kernel_rfl) (by kernel_rfl) (by kernel_rfl) (fun _ _ _ h => h) (Or.inl ⟨by rfl, ?hyf24⟩) (by exact h3) ?ref24
    case hyf24 => (intro ww hSw; (try dsimp only at hSw); go_simp; first | done | with_reducible rfl)
    try simp only [Act.put]
    refine wpAnyH_done (by kernel_rfl) ?_ _
    go_wp2_with fail
    go_meet
    exact ⟨rfl, rfl, rfl, (below_alloc (below_alloc HB)).drew, alloc_new' _ _ _ (by simp)⟩
  case rest =>
    clear HB
    obtain ⟨rfl, rfl, rfl, HB, hSx⟩ := hcut
    have HS := Lib.hid hSx; clear hSx
    clear b1 b4 b5 b6 b7 b8 q1 q2 q3 q4 q5 hcv
    obtain ⟨b0, rfl⟩ : ∃ wo : World, wo = wc := ⟨_, rfl⟩
    have HB0 := Lib.hid HB; clear HB
    go_wp2_with fail
    go_loopw [82] (fun i wl => ∃ j : Nat, j ≤ 5 ∧ i = .int .i64 (j : Int) ∧ Below b0.heap.size b0 wl) (fun i _ => 5 - (intOf i).toNat)
    case atStart => exact ⟨0, by omega, rfl, Below.refl _ _⟩
    case round =>
      obtain ⟨j, hj, rfl, HR⟩ := hrel
      obtain ⟨wo, rfl⟩ : ∃ wo : World, wo = wr := ⟨_, rfl⟩
      by_cases hlt : j < 5
      · as_aux_lemma =>
        obtain ⟨y, hyz, cy⟩ := cells5s HS.out hE1 hfs j hlt
        have gy := bcell HR cy; clear cy
        have lt_S := blk_lt HS.out; have hzo := HR.size
        have hjl : decide ((j : Int) < 5) = true := by simp; omega
        have hj0 : (0 : Int) ≤ (j : Int) := by omega
        have HRo := Lib.hid HR; clear HR
        go_upto_region 12 with fail
        iterate 29 go_step
        refine oper_slice3 rfl rfl rfl rfl ?_
        go_simp
        go_wp2_with fail
        clear gy
        have Hf := Lib.hid (alloc_new' wo (.cells #[.int .i64 p, .int .i64 q, .int .i64 q, .int .i64 p, .int .i64 from_, .int .i64 to_] 40) (wo.heap.size) rfl)
        have HB1 := below_alloc (o := .cells #[.int .i64 p, .int .i64 q, .int .i64 q, .int .i64 p, .int .i64 from_, .int .i64 to_] 40) HRo.out; have HB1 := Lib.hid HB1
        generalize wo.alloc (.cells #[.int .i64 p, .int .i64 q, .int .i64 q, .int .i64 p, .int .i64 from_, .int .i64 to_] 40) = b1 at *
        go_loopw [97] (fun i wl => ∃ j2 : Nat, j2 ≤ 3 ∧ i = .int .i64 (j2 : Int) ∧ Below b1.heap.size b1 wl) (fun i _ => 3 - (intOf i).toNat)
        case atStart => exact ⟨0, by omega, rfl, Below.refl _ _⟩
        case round =>
          obtain ⟨j2, hj2, rfl, HR⟩ := hrel
          obtain ⟨wi, rfl⟩ : ∃ wo : World, wo = wr := ⟨_, rfl⟩
          by_cases hlt2 : j2 < 3
          · as_aux_lemma =>
            obtain ⟨f, d, cf, cd⟩ := cells6i Hf.out j2 hlt2
            have gf := bcell HR cf; have gd := bcell HR cd; clear cf cd
            have lt_f := blk_lt Hf.out; have hzi := HR.size
            have hjl2 : decide ((j2 : Int) < 3) = true := by simp; omega
            have hj02 : (0 : Int) ≤ (j2 : Int) := by omega
            obtain ⟨x, en, hxl, hD, hRD⟩ := dec_both f d y hyz
            have HD := Lib.hid hD; have HRD := Lib.hid hRD; clear hD hRD
            have HSM : Hid (∀ W A c A' c', Bks W A x.bl.length x.bl → Bks W A' x.bl.length x.bl → Calls Try.prog 19 #[.agg #[.int .i64 x.fp, .int .i64 x.tp, .int .i64 x.sq, .int .i64 x.ack, .bool x.syn, .bool x.fin, .bool x.rst, .bool x.ha, .int .i64 x.win, .int .i64 x.mss, .bool x.sacks, .slice A x.bl.length c, .string x.s], .agg #[.int .i64 x.fp, .int .i64 x.tp, .int .i64 x.sq, .int .i64 x.ack, .bool x.syn, .bool x.fin, .bool x.rst, .bool x.ha, .int .i64 x.win, .int .i64 x.mss, .bool x.sacks, .slice A' x.bl.length c', .string x.s]] W fun e w' => e = .returned (.bool true) ∧ Below W.heap.size W w') := Lib.hid fun W A c A' c' h1 h2 => sameB_self x ▸ rsame_any x x A A' c c' W (by omega) h1 h2
            have HB := HR; clear HR
            go_wp2_with fail
            clear gf gd
            have Hz := Lib.hid (alloc_new' wi (.cells #[.int .i64 f, .int .i64 d] 40) (wi.heap.size) (by simp))
            have HB' := below_alloc (o := .cells #[.int .i64 f, .int .i64 d] 40) HB; clear HB; have HB := HB'; clear HB'
            have Sz := cells2 Hz.out
            obtain ⟨⟨qz0, qz1⟩, zz0, zz1⟩ := Sz
            have lt_z := blk_lt Hz.out
            go_wp2_with fail
            refine (HD.out _).mono ?_
            rintro e w31 ⟨⟨A1, c1, rfl, hbk1⟩, hb⟩
            clear qz0 zz0 qz1 zz1
            have Hz' := Lib.hid (bblock hb Hz.out); clear Hz; have Hz := Hz'; clear Hz'
            have HB' := below_call HB hb; clear HB hb; have HB := HB'; clear HB'; have hz31 := HB.size
            have lt_z_31 := blk_lt Hz.out
            have H1bk := Lib.hid hbk1; clear hbk1
            have Hc := Lib.hid (alloc_new' w31 (.cells #[.int .i64 x.fp, .int .i64 x.tp, .int .i64 x.sq, .int .i64 x.ack, .bool x.syn, .bool x.fin, .bool x.rst, .bool x.ha, .int .i64 x.win, .int .i64 x.mss, .bool x.sacks, .slice A1 x.bl.length c1, .string x.s] 24) (w31.heap.size) (by simp))
            have Hz' := Lib.hid (block_alloc Hz.out (.cells #[.int .i64 x.fp, .int .i64 x.tp, .int .i64 x.sq, .int .i64 x.ack, .bool x.syn, .bool x.fin, .bool x.rst, .bool x.ha, .int .i64 x.win, .int .i64 x.mss, .bool x.sacks, .slice A1 x.bl.length c1, .string x.s] 24)); clear Hz; have Hz := Hz'; clear Hz'
            have H1bk' := Lib.hid (H1bk.out.alloc (.cells #[.int .i64 x.fp, .int .i64 x.tp, .int .i64 x.sq, .int .i64 x.ack, .bool x.syn, .bool x.fin, .bool x.rst, .bool x.ha, .int .i64 x.win, .int .i64 x.mss, .bool x.sacks, .slice A1 x.bl.length c1, .string x.s] 24)); clear H1bk; have H1bk := H1bk'; clear H1bk'
            have HB' := below_alloc (o := .cells #[.int .i64 x.fp, .int .i64 x.tp, .int .i64 x.sq, .int .i64 x.ack, .bool x.syn, .bool x.fin, .bool x.rst, .bool x.ha, .int .i64 x.win, .int .i64 x.mss, .bool x.sacks, .slice A1 x.bl.length c1, .string x.s] 24) HB; clear HB; have HB := HB'; clear HB'
            have Sz := cells2 Hz.out
            obtain ⟨⟨qz0, qz1⟩, zz0, zz1⟩ := Sz
            have lt_z := blk_lt Hz.out
            go_wp2_with fail
            refine (HRD.out _).mono ?_
            rintro e w32 ⟨⟨A2, c2, rfl, hbk2⟩, hb⟩
            clear qz0 zz0 qz1 zz1
            have Hz' := Lib.hid (bblock hb Hz.out); clear Hz; have Hz := Hz'; clear Hz'
            have Hc' := Lib.hid (bblock hb Hc.out); clear Hc; have Hc := Hc'; clear Hc'
            have H1bk' := Lib.hid (H1bk.out.below hb); clear H1bk; have H1bk := H1bk'; clear H1bk'
            have HB' := below_call HB hb; clear HB hb; have HB := HB'; clear HB'; have hz32 := HB.size
            have lt_z_32 := blk_lt Hz.out
            have lt_c_32 := blk_lt Hc.out
            have H2bk := Lib.hid hbk2; clear hbk2
            have He := Lib.hid (alloc_new' w32 (.cells #[.int .i64 x.fp, .int .i64 x.tp, .int .i64 x.sq, .int .i64 x.ack, .bool x.syn, .bool x.fin, .bool x.rst, .bool x.ha, .int .i64 x.win, .int .i64 x.mss, .bool x.sacks, .slice A2 x.bl.length c2, .string x.s] 24) (w32.heap.size) (by simp))
            have Hz' := Lib.hid (block_alloc Hz.out (.cells #[.int .i64 x.fp, .int .i64 x.tp, .int .i64 x.sq, .int .i64 x.ack, .bool x.syn, .bool x.fin, .bool x.rst, .bool x.ha, .int .i64 x.win, .int .i64 x.mss, .bool x.sacks, .slice A2 x.bl.length c2, .string x.s] 24)); clear Hz; have Hz := Hz'; clear Hz'
            have Hc' := Lib.hid (block_alloc Hc.out (.cells #[.int .i64 x.fp, .int .i64 x.tp, .int .i64 x.sq, .int .i64 x.ack, .bool x.syn, .bool x.fin, .bool x.rst, .bool x.ha, .int .i64 x.win, .int .i64 x.mss, .bool x.sacks, .slice A2 x.bl.length c2, .string x.s] 24)); clear Hc; have Hc := Hc'; clear Hc'
            have H1bk' := Lib.hid (H1bk.out.alloc (.cells #[.int .i64 x.fp, .int .i64 x.tp, .int .i64 x.sq, .int .i64 x.ack, .bool x.syn, .bool x.fin, .bool x.rst, .bool x.ha, .int .i64 x.win, .int .i64 x.mss, .bool x.sacks, .slice A2 x.bl.length c2, .string x.s] 24)); clear H1bk; have H1bk := H1bk'; clear H1bk'
            have H2bk' := Lib.hid (H2bk.out.alloc (.cells #[.int .i64 x.fp, .int .i64 x.tp, .int .i64 x.sq, .int .i64 x.ack, .bool x.syn, .bool x.fin, .bool x.rst, .bool x.ha, .int .i64 x.win, .int .i64 x.mss, .bool x.sacks, .slice A2 x.bl.length c2, .string x.s] 24)); clear H2bk; have H2bk := H2bk'; clear H2bk'
            have HB' := below_alloc (o := .cells #[.int .i64 x.fp, .int .i64 x.tp, .int .i64 x.sq, .int .i64 x.ack, .bool x.syn, .bool x.fin, .bool x.rst, .bool x.ha, .int .i64 x.win, .int .i64 x.mss, .bool x.sacks, .slice A2 x.bl.length c2, .string x.s] 24) HB; clear HB; have HB := HB'; clear HB'
            have Sc := cells13 Hc.out
            obtain ⟨⟨qc0, qc1, qc2, qc3, qc4, qc5, qc6, qc7, qc8, qc9, qc10, qc11, qc12⟩, zc0, zc1, zc2, zc3, zc4, zc5, zc6, zc7, zc8, zc9, zc10, zc11, zc12⟩ := Sc
            have lt_c := blk_lt Hc.out
            have Se := cells13 He.out
            obtain ⟨⟨qe0, qe1, qe2, qe3, qe4, qe5, qe6, qe7, qe8, qe9, qe10, qe11, qe12⟩, ze0, ze1, ze2, ze3, ze4, ze5, ze6, ze7, ze8, ze9, ze10, ze11, ze12⟩ := Se
            have lt_e := blk_lt He.out
            go_wp2_with fail
            refine (HSM.out _ _ _ _ _ H1bk.out H2bk.out).mono ?_
            rintro e w33 ⟨rfl, hb⟩
            clear qc0 zc0 qc1 zc1 qc2 zc2 qc3 zc3 qc4 zc4 qc5 zc5 qc6 zc6 qc7 zc7 qc8 zc8 qc9 zc9 qc10 zc10 qc11 zc11 qc12 zc12
            clear qe0 ze0 qe1 ze1 qe2 ze2 qe3 ze3 qe4 ze4 qe5 ze5 qe6 ze6 qe7 ze7 qe8 ze8 qe9 ze9 qe10 ze10 qe11 ze11 qe12 ze12
            have Hz' := Lib.hid (bblock hb Hz.out); clear Hz; have Hz := Hz'; clear Hz'
            have Hc' := Lib.hid (bblock hb Hc.out); clear Hc; have Hc := Hc'; clear Hc'
            have He' := Lib.hid (bblock hb He.out); clear He; have He := He'; clear He'
            have H1bk' := Lib.hid (H1bk.out.below hb); clear H1bk; have H1bk := H1bk'; clear H1bk'
            have H2bk' := Lib.hid (H2bk.out.below hb); clear H2bk; have H2bk := H2bk'; clear H2bk'
            have HB' := below_call HB hb; clear HB hb; have HB := HB'; clear HB'; have hz33 := HB.size
            have lt_z_33 := blk_lt Hz.out
            have lt_c_33 := blk_lt Hc.out
            have lt_e_33 := blk_lt He.out
            go_wp2_with fail
            go_roundw
            case rel => exact ⟨j2 + 1, by omega, by go_num, HB⟩
            case measure => simp [intOf]; omega
          · as_aux_lemma =>
            have hjl2 : decide ((j2 : Int) < 3) = false := by simp; omega
            go_wp2_with fail
            go_roundw
            case rel => exact ⟨j + 1, by omega, by go_num, below_call HB1.out HR⟩
            case measure => simp [intOf]; omega
      · have hjl : decide ((j : Int) < 5) = false := by simp; omega
        go_wp2_with fail
        go_ret
        exact ⟨rfl, below_call HB0.out HR⟩
end Go.Proofs.Ytkinlmanimdlcaa.Sg
