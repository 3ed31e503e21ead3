/-
  The walk of the law DNSEncodesLikeReference.
-/
import Derived.Test.YthdggmigjddneaaDnCutL
import Derived.Test.YthdggmigjddneaaDnRdec
import Derived.IntWalk
import Derived.Deep.RegionHeld3
import Derived.Deep.QuietTactic
import Derived.BigQuiet
import Derived.Deep.DeepCutAuto
import Derived.Outline
namespace Go.Proofs.Ythdggmigjddneaa.Dn
set_option maxRecDepth 100000
open Go.RowKit Go.Proofs.Ythdggmigjddneaa.Wire Go.Proofs.Ythdggmigjddneaa.Rw

theorem XArg.alloc {W : World} {A : Option Addr} {k : Nat} {l : List RX} (h : XArg W A k l) (o : Obj) : XArg (W.alloc o) A k l := h.below ((Below.refl W.heap.size W).alloc (Nat.le_refl _) o)
theorem enc_both (d : Msg) (hf : d.fits) : ∃ (st : ByteArray) (er : Int), (∀ (A : Option Addr) (c lo : Nat) (W : World), RRow W lo A c d.recs → Calls Try.prog 15 #[.agg #[.int .i64 d.id, .bool d.ans, .int .i64 d.code, .string ⟨d.nm.toArray⟩, .int .i64 d.kd, .slice A d.recs.length c]] W fun e w' => e = .returned (.tuple #[.string st, .int .i64 er]) ∧ Below W.heap.size W w') ∧
    ∀ (A : Option Addr) (c lo : Nat) (W : World), RRow W lo A c d.recs → Calls Try.prog 16 #[.agg #[.int .i64 d.id, .bool d.ans, .int .i64 d.code, .string ⟨d.nm.toArray⟩, .int .i64 d.kd, .slice A d.recs.length c]] W fun e w' => e = .returned (.tuple #[.string st, .int .i64 er]) ∧ Below W.heap.size W w' := by
  cases h : msgB d with
  | true => exact ⟨_, _, fun A c lo W hr => encode_ok d A c lo W hf hr h, fun A c lo W hr => rencode_ok d A c lo W hf hr h⟩
  | false => exact ⟨_, _, fun A c lo W hr => encode_no d A c lo W hf hr h, fun A c lo W hr => rencode_no d A c lo W hf hr h⟩
theorem val_both (d : Msg) (hf : d.fits) : (∀ (A : Option Addr) (c lo : Nat) (W : World), RRow W lo A c d.recs → Calls Try.prog 17 #[.agg #[.int .i64 d.id, .bool d.ans, .int .i64 d.code, .string ⟨d.nm.toArray⟩, .int .i64 d.kd, .slice A d.recs.length c]] W fun e w' => e = .returned (.bool (msgB d)) ∧ Below W.heap.size W w') ∧
    ∀ (A : Option Addr) (c lo : Nat) (W : World), RRow W lo A c d.recs → Calls Try.prog 18 #[.agg #[.int .i64 d.id, .bool d.ans, .int .i64 d.code, .string ⟨d.nm.toArray⟩, .int .i64 d.kd, .slice A d.recs.length c]] W fun e w' => e = .returned (.bool (msgB d)) ∧ Below W.heap.size W w' :=
  ⟨fun A c lo W hr => valid_any d A c lo W hf hr, fun A c lo W hr => rvalid_any d A c lo W hf hr⟩
theorem bszL (l : List UInt8) : (⟨l.toArray⟩ : ByteArray).size = l.length := rfl
theorem cells5n {W : World} {bk k k1 : Nat} {C : List UInt8} {few : ByteArray} (hb : W.heap[bk]? = some (.cells #[.string few, .string ⟨C.toArray⟩, .string ((⟨C.toArray⟩ : ByteArray).extract 0 k ++ few.extract 0 k1 ++ (⟨C.toArray⟩ : ByteArray).extract k C.length), .string ((⟨C.toArray⟩ : ByteArray).extract 0 k), .string ((⟨C.toArray⟩ : ByteArray) ++ ⟨#[46]⟩ ++ few)] 9)) (hC : C.length ≤ 60) (hf : few.size ≤ 100) (j : Nat) (hj : j < 5) :
    ∃ s : ByteArray, s.size ≤ 1000000 ∧ W.cell? ⟨bk, j, none⟩ = some (.string s) := by
  match j, hj with
  | 0, _ => exact ⟨_, by omega, (cell_of_block hb rfl).1⟩
  | 1, _ => exact ⟨_, by rw [bszL]; omega, (cell_of_block hb rfl).1⟩
  | 2, _ => exact ⟨_, by rw [ByteArray.size_append, ByteArray.size_append, ByteArray.size_extract, ByteArray.size_extract, ByteArray.size_extract, bszL]; omega, (cell_of_block hb rfl).1⟩
  | 3, _ => exact ⟨_, by rw [ByteArray.size_extract, bszL]; omega, (cell_of_block hb rfl).1⟩
  | 4, _ => exact ⟨_, by rw [ByteArray.size_append, ByteArray.size_append, bszL, show (⟨#[46]⟩ : ByteArray).size = 1 from rfl]; omega, (cell_of_block hb rfl).1⟩
/-- one of the four messages -/
theorem msg4 {W : World} {bk : Nat} {d1 d2 dr ne : Msg} {A5 A6 Ar A3 : Option Addr} {c5 c6 cr c3 l5 l6 lr l3 : Nat} (hb : W.heap[bk]? = some (.cells #[.int .i64 d1.id, .bool d1.ans, .int .i64 d1.code, .string ⟨d1.nm.toArray⟩, .int .i64 d1.kd, .slice A5 d1.recs.length c5, .int .i64 d2.id, .bool d2.ans, .int .i64 d2.code, .string ⟨d2.nm.toArray⟩, .int .i64 d2.kd, .slice A6 d2.recs.length c6, .int .i64 dr.id, .bool dr.ans, .int .i64 dr.code, .string ⟨dr.nm.toArray⟩, .int .i64 dr.kd, .slice Ar dr.recs.length cr, .int .i64 ne.id, .bool ne.ans, .int .i64 ne.code, .string ⟨ne.nm.toArray⟩, .int .i64 ne.kd, .slice A3 ne.recs.length c3] 27)) (h1 : d1.fits) (h2 : d2.fits) (h3 : dr.fits) (h4 : ne.fits)
    (r1 : RRow W l5 A5 c5 d1.recs) (r2 : RRow W l6 A6 c6 d2.recs) (r3 : RRow W lr Ar cr dr.recs) (r4 : RRow W l3 A3 c3 ne.recs) (j : Nat) (hj : j < 4) :
    ∃ (d : Msg) (A : Option Addr) (c lo : Nat), d.fits ∧ RRow W lo A c d.recs ∧ W.cell? ⟨bk, j * 6, none⟩ = some (.int .i64 d.id) ∧ W.cell? ⟨bk, j * 6 + 1, none⟩ = some (.bool d.ans) ∧ W.cell? ⟨bk, j * 6 + 2, none⟩ = some (.int .i64 d.code) ∧ W.cell? ⟨bk, j * 6 + 3, none⟩ = some (.string ⟨d.nm.toArray⟩) ∧ W.cell? ⟨bk, j * 6 + 4, none⟩ = some (.int .i64 d.kd) ∧ W.cell? ⟨bk, j * 6 + 5, none⟩ = some (.slice A d.recs.length c) := by
  match j, hj with
  | 0, _ => exact ⟨d1, A5, c5, l5, h1, r1, (cell_of_block hb rfl).1, (cell_of_block hb rfl).1, (cell_of_block hb rfl).1, (cell_of_block hb rfl).1, (cell_of_block hb rfl).1, (cell_of_block hb rfl).1⟩
  | 1, _ => exact ⟨d2, A6, c6, l6, h2, r2, (cell_of_block hb rfl).1, (cell_of_block hb rfl).1, (cell_of_block hb rfl).1, (cell_of_block hb rfl).1, (cell_of_block hb rfl).1, (cell_of_block hb rfl).1⟩
  | 2, _ => exact ⟨dr, Ar, cr, lr, h3, r3, (cell_of_block hb rfl).1, (cell_of_block hb rfl).1, (cell_of_block hb rfl).1, (cell_of_block hb rfl).1, (cell_of_block hb rfl).1, (cell_of_block hb rfl).1⟩
  | 3, _ => exact ⟨ne, A3, c3, l3, h4, r4, (cell_of_block hb rfl).1, (cell_of_block hb rfl).1, (cell_of_block hb rfl).1, (cell_of_block hb rfl).1, (cell_of_block hb rfl).1, (cell_of_block hb rfl).1⟩
theorem near_fits {d1 dr : Msg} (h1 : d1.fits) (l1 : d1.recs.length ≤ 8) (h2 : dr.fits) (l2 : dr.recs.length ≤ 10) (c : Int) : Msg.fits ⟨d1.id, d1.ans, c, d1.nm, d1.kd, d1.recs ++ dr.recs⟩ :=
  ⟨h1.1, by show (d1.recs ++ dr.recs).length ≤ _; rw [List.length_append]; omega, fun r hr => by
    rcases List.mem_append.1 hr with h | h
    · exact h1.2.2 r h
    · exact h2.2.2 r h⟩
set_option maxHeartbeats 40000000 in
theorem law31_any (x y : DR) (oid ocode okd : Int) (oans : Bool) (onm s : ByteArray) (at_ : Int) (Ax Ay Ao : Option Addr) (nx cx ny cy no co : Nat) (lo_ : List RX) (w : World) (hx : x.ok) (hAx : RArg w Ax nx x.recs) (hy : y.ok) (hAy : RArg w Ay ny y.recs) (hAo : no ≤ co ∧ XArg w Ao no lo_) (hat : In64 at_) :
    Calls Try.prog 3 #[.agg #[.int .i64 x.id, .bool x.ans, .int .i64 x.code, .int .i64 x.nm, .bool x.alias, .slice Ax nx cx], .agg #[.int .i64 y.id, .bool y.ans, .int .i64 y.code, .int .i64 y.nm, .bool y.alias, .slice Ay ny cy], .agg #[.int .i64 oid, .bool oans, .int .i64 ocode, .string onm, .int .i64 okd, .slice Ao no co], .string s, .int .i64 at_] w fun e w' => e = .returned (.bool true) ∧ Below w.heap.size w w' := by
  have HAx := Lib.hid hAx; have HAy := Lib.hid hAy; have HAx0 := Lib.hid hAx; have HAy0 := Lib.hid hAy; have HAo := Lib.hid hAo.2
  have HX := Lib.hid fun W h => dnsL x Ax nx cx W hx h
  have HY := Lib.hid fun W h => dnsL y Ay ny cy W hy h
  have HCut := Lib.hid fun W h => cutD_any oid ocode okd oans onm Ao no co lo_ W hAo.1 h
  have HN := Lib.hid fun W => nameOf_any x.nm W hx.2.2
  have hc60 := name_len (nameOf_ok x.nm)
  have ok1 := dnsOf_ok x; have ok2 := dnsOf_ok y
  have hf1 := ok_fits ok1; have hf2 := ok_fits ok2
  have h18 := ((msgB_iff _).1 ok1).2.2.2.1
  generalize dnsOf x = d1 at *
  generalize dnsOf y = d2 at *
  generalize nameOf x.nm = C at *
  have hpk := pick_lt at_ ((C.length : Int) + 1) (by omega)
  have HK := Lib.hid fun W => pick_any at_ ((C.length : Int) + 1) W hat (by omega) (by omega)
  have hw0 : IntKind.i64.wrap ((C.length : Int) + 1) = (C.length : Int) + 1 := IntWalk.i64_in _ (by omega)
  obtain ⟨k, hk⟩ := Int.eq_ofNat_of_zero_le hpk.1
  rw [hk] at HK hpk
  have hmn : (0 : Int) ≤ min (s.size : Int) 100 := by omega
  have hmm : min (s.size : Int) 100 ≤ (s.size : Int) := by omega
  clear hk hx hy hAx hAy hAo hat ok1 ok2
  have HB := Below.refl w.heap.size w
  have Hx := Lib.hid (alloc_new' w (.cells #[.int .i64 x.id, .bool x.ans, .int .i64 x.code, .int .i64 x.nm, .bool x.alias, .slice Ax nx cx] 24) (w.heap.size) (by simp))
  have HAx' := Lib.hid (HAx.out.alloc (.cells #[.int .i64 x.id, .bool x.ans, .int .i64 x.code, .int .i64 x.nm, .bool x.alias, .slice Ax nx cx] 24)); clear HAx; have HAx := HAx'; clear HAx'
  have HAy' := Lib.hid (HAy.out.alloc (.cells #[.int .i64 x.id, .bool x.ans, .int .i64 x.code, .int .i64 x.nm, .bool x.alias, .slice Ax nx cx] 24)); clear HAy; have HAy := HAy'; clear HAy'
  have HAo' := Lib.hid (HAo.out.alloc (.cells #[.int .i64 x.id, .bool x.ans, .int .i64 x.code, .int .i64 x.nm, .bool x.alias, .slice Ax nx cx] 24)); clear HAo; have HAo := HAo'; clear HAo'
  have HB' := below_alloc (o := .cells #[.int .i64 x.id, .bool x.ans, .int .i64 x.code, .int .i64 x.nm, .bool x.alias, .slice Ax nx cx] 24) HB; clear HB; have HB := HB'; clear HB'
  have Hy := Lib.hid (alloc_new' (w.alloc (.cells #[.int .i64 x.id, .bool x.ans, .int .i64 x.code, .int .i64 x.nm, .bool x.alias, .slice Ax nx cx] 24)) (.cells #[.int .i64 y.id, .bool y.ans, .int .i64 y.code, .int .i64 y.nm, .bool y.alias, .slice Ay ny cy] 24) (w.heap.size + 1) (by simp))
  have Hx' := Lib.hid (block_alloc Hx.out (.cells #[.int .i64 y.id, .bool y.ans, .int .i64 y.code, .int .i64 y.nm, .bool y.alias, .slice Ay ny cy] 24)); clear Hx; have Hx := Hx'; clear Hx'
  have HAx' := Lib.hid (HAx.out.alloc (.cells #[.int .i64 y.id, .bool y.ans, .int .i64 y.code, .int .i64 y.nm, .bool y.alias, .slice Ay ny cy] 24)); clear HAx; have HAx := HAx'; clear HAx'
  have HAy' := Lib.hid (HAy.out.alloc (.cells #[.int .i64 y.id, .bool y.ans, .int .i64 y.code, .int .i64 y.nm, .bool y.alias, .slice Ay ny cy] 24)); clear HAy; have HAy := HAy'; clear HAy'
  have HAo' := Lib.hid (HAo.out.alloc (.cells #[.int .i64 y.id, .bool y.ans, .int .i64 y.code, .int .i64 y.nm, .bool y.alias, .slice Ay ny cy] 24)); clear HAo; have HAo := HAo'; clear HAo'
  have HB' := below_alloc (o := .cells #[.int .i64 y.id, .bool y.ans, .int .i64 y.code, .int .i64 y.nm, .bool y.alias, .slice Ay ny cy] 24) HB; clear HB; have HB := HB'; clear HB'
  have Ho := Lib.hid (alloc_new' ((w.alloc (.cells #[.int .i64 x.id, .bool x.ans, .int .i64 x.code, .int .i64 x.nm, .bool x.alias, .slice Ax nx cx] 24)).alloc (.cells #[.int .i64 y.id, .bool y.ans, .int .i64 y.code, .int .i64 y.nm, .bool y.alias, .slice Ay ny cy] 24)) (.cells #[.int .i64 oid, .bool oans, .int .i64 ocode, .string onm, .int .i64 okd, .slice Ao no co] 27) (w.heap.size + 1 + 1) (by simp))
  have Hx' := Lib.hid (block_alloc Hx.out (.cells #[.int .i64 oid, .bool oans, .int .i64 ocode, .string onm, .int .i64 okd, .slice Ao no co] 27)); clear Hx; have Hx := Hx'; clear Hx'
  have Hy' := Lib.hid (block_alloc Hy.out (.cells #[.int .i64 oid, .bool oans, .int .i64 ocode, .string onm, .int .i64 okd, .slice Ao no co] 27)); clear Hy; have Hy := Hy'; clear Hy'
  have HAx' := Lib.hid (HAx.out.alloc (.cells #[.int .i64 oid, .bool oans, .int .i64 ocode, .string onm, .int .i64 okd, .slice Ao no co] 27)); clear HAx; have HAx := HAx'; clear HAx'
  have HAy' := Lib.hid (HAy.out.alloc (.cells #[.int .i64 oid, .bool oans, .int .i64 ocode, .string onm, .int .i64 okd, .slice Ao no co] 27)); clear HAy; have HAy := HAy'; clear HAy'
  have HAo' := Lib.hid (HAo.out.alloc (.cells #[.int .i64 oid, .bool oans, .int .i64 ocode, .string onm, .int .i64 okd, .slice Ao no co] 27)); clear HAo; have HAo := HAo'; clear HAo'
  have HB' := below_alloc (o := .cells #[.int .i64 oid, .bool oans, .int .i64 ocode, .string onm, .int .i64 okd, .slice Ao no co] 27) HB; clear HB; have HB := HB'; clear HB'
  go_enter Try.func3, Try.ntmps3
  go_wp2_with fail
  refine (examples_any _).mono ?_
  rintro e w1 ⟨rfl, hb⟩
  have Hx' := Lib.hid (bblock hb Hx.out); clear Hx; have Hx := Hx'; clear Hx'
  have Hy' := Lib.hid (bblock hb Hy.out); clear Hy; have Hy := Hy'; clear Hy'
  have Ho' := Lib.hid (bblock hb Ho.out); clear Ho; have Ho := Ho'; clear Ho'
  have HAx' := Lib.hid (HAx.out.below hb); clear HAx; have HAx := HAx'; clear HAx'
  have HAy' := Lib.hid (HAy.out.below hb); clear HAy; have HAy := HAy'; clear HAy'
  have HAo' := Lib.hid (HAo.out.below hb); clear HAo; have HAo := HAo'; clear HAo'
  have HB' := below_call HB hb; clear HB hb; have HB := HB'; clear HB'; have hz1 := HB.size
  have lt_x_1 := blk_lt Hx.out
  have lt_y_1 := blk_lt Hy.out
  have lt_o_1 := blk_lt Ho.out
  have qx3 := (cell_of_block (k := 3) Hx.out rfl).1; have zx3 := (cell_of_block (k := 3) Hx.out rfl).2
  have lt_x := blk_lt Hx.out
  go_upto_region 5 with fail
  generalize hfew : s.extract 0 (min (s.size : Int) 100).toNat = few at *
  have hfs : few.size ≤ 100 := by rw [← hfew]; simp; omega
  clear hfew hmn hmm
  go_wp2_with fail
  refine (HN.out _).mono ?_
  rintro e w2 ⟨rfl, hb⟩
  have Hx' := Lib.hid (bblock hb Hx.out); clear Hx; have Hx := Hx'; clear Hx'
  have Hy' := Lib.hid (bblock hb Hy.out); clear Hy; have Hy := Hy'; clear Hy'
  have Ho' := Lib.hid (bblock hb Ho.out); clear Ho; have Ho := Ho'; clear Ho'
  have HAx' := Lib.hid (HAx.out.below hb); clear HAx; have HAx := HAx'; clear HAx'
  have HAy' := Lib.hid (HAy.out.below hb); clear HAy; have HAy := HAy'; clear HAy'
  have HAo' := Lib.hid (HAo.out.below hb); clear HAo; have HAo := HAo'; clear HAo'
  have HB' := below_call HB hb; clear HB hb; have HB := HB'; clear HB'; have hz2 := HB.size
  have lt_x_2 := blk_lt Hx.out
  have lt_y_2 := blk_lt Hy.out
  have lt_o_2 := blk_lt Ho.out
  clear HN qx3 zx3
  go_wp2_with fail
  refine (HK.out _).mono ?_
  rintro e w' ⟨rfl, rfl⟩
  have So := cells6 Ho.out
  obtain ⟨⟨qo0, qo1, qo2, qo3, qo4, qo5⟩, zo0, zo1, zo2, zo3, zo4, zo5⟩ := So
  have lt_o := blk_lt Ho.out
  go_wp2_with fail
  refine (HCut.out _ HAo.out).mono ?_
  rintro e w3 ⟨dr, Ar, cr, rfl, hrr, hfr, hb⟩
  clear qo0 zo0 qo1 zo1 qo2 zo2 qo3 zo3 qo4 zo4 qo5 zo5
  have Hx' := Lib.hid (bblock hb Hx.out); clear Hx; have Hx := Hx'; clear Hx'
  have Hy' := Lib.hid (bblock hb Hy.out); clear Hy; have Hy := Hy'; clear Hy'
  have Ho' := Lib.hid (bblock hb Ho.out); clear Ho; have Ho := Ho'; clear Ho'
  have HAx' := Lib.hid (HAx.out.below hb); clear HAx; have HAx := HAx'; clear HAx'
  have HAy' := Lib.hid (HAy.out.below hb); clear HAy; have HAy := HAy'; clear HAy'
  have HAo' := Lib.hid (HAo.out.below hb); clear HAo; have HAo := HAo'; clear HAo'
  have HB' := below_call HB hb; clear HB hb; have HB := HB'; clear HB'; have hz3 := HB.size
  have lt_x_3 := blk_lt Hx.out
  have lt_y_3 := blk_lt Hy.out
  have lt_o_3 := blk_lt Ho.out
  have Hrr := Lib.hid hrr; clear hrr Ho HCut
  clear HAo
  have Hr := Lib.hid (alloc_new' w3 (.cells #[.int .i64 dr.id, .bool dr.ans, .int .i64 dr.code, .string ⟨dr.nm.toArray⟩, .int .i64 dr.kd, .slice Ar dr.recs.length cr] 27) (w3.heap.size) (by simp))
  have Hx' := Lib.hid (block_alloc Hx.out (.cells #[.int .i64 dr.id, .bool dr.ans, .int .i64 dr.code, .string ⟨dr.nm.toArray⟩, .int .i64 dr.kd, .slice Ar dr.recs.length cr] 27)); clear Hx; have Hx := Hx'; clear Hx'
  have Hy' := Lib.hid (block_alloc Hy.out (.cells #[.int .i64 dr.id, .bool dr.ans, .int .i64 dr.code, .string ⟨dr.nm.toArray⟩, .int .i64 dr.kd, .slice Ar dr.recs.length cr] 27)); clear Hy; have Hy := Hy'; clear Hy'
  have HAx' := Lib.hid (HAx.out.alloc (.cells #[.int .i64 dr.id, .bool dr.ans, .int .i64 dr.code, .string ⟨dr.nm.toArray⟩, .int .i64 dr.kd, .slice Ar dr.recs.length cr] 27)); clear HAx; have HAx := HAx'; clear HAx'
  have HAy' := Lib.hid (HAy.out.alloc (.cells #[.int .i64 dr.id, .bool dr.ans, .int .i64 dr.code, .string ⟨dr.nm.toArray⟩, .int .i64 dr.kd, .slice Ar dr.recs.length cr] 27)); clear HAy; have HAy := HAy'; clear HAy'
  have Hrr' := Lib.hid (Hrr.out.alloc (.cells #[.int .i64 dr.id, .bool dr.ans, .int .i64 dr.code, .string ⟨dr.nm.toArray⟩, .int .i64 dr.kd, .slice Ar dr.recs.length cr] 27)); clear Hrr; have Hrr := Hrr'; clear Hrr'
  have HB' := below_alloc (o := .cells #[.int .i64 dr.id, .bool dr.ans, .int .i64 dr.code, .string ⟨dr.nm.toArray⟩, .int .i64 dr.kd, .slice Ar dr.recs.length cr] 27) HB; clear HB; have HB := HB'; clear HB'
  have Sx := cells6 Hx.out
  obtain ⟨⟨qx0, qx1, qx2, qx3, qx4, qx5⟩, zx0, zx1, zx2, zx3, zx4, zx5⟩ := Sx
  have lt_x := blk_lt Hx.out
  go_wp2_with fail
  refine (HX.out _ HAx.out).mono ?_
  rintro e w4 ⟨A1, c1, rfl, hr1, hb⟩
  clear qx0 zx0 qx1 zx1 qx2 zx2 qx3 zx3 qx4 zx4 qx5 zx5
  have Hx' := Lib.hid (bblock hb Hx.out); clear Hx; have Hx := Hx'; clear Hx'
  have Hy' := Lib.hid (bblock hb Hy.out); clear Hy; have Hy := Hy'; clear Hy'
  have Hr' := Lib.hid (bblock hb Hr.out); clear Hr; have Hr := Hr'; clear Hr'
  have HAx' := Lib.hid (HAx.out.below hb); clear HAx; have HAx := HAx'; clear HAx'
  have HAy' := Lib.hid (HAy.out.below hb); clear HAy; have HAy := HAy'; clear HAy'
  have Hrr' := Lib.hid (Hrr.out.below hb); clear Hrr; have Hrr := Hrr'; clear Hrr'
  have HB' := below_call HB hb; clear HB hb; have HB := HB'; clear HB'; have hz4 := HB.size
  have lt_x_4 := blk_lt Hx.out
  have lt_y_4 := blk_lt Hy.out
  have lt_r_4 := blk_lt Hr.out
  have Hr1 := Lib.hid hr1; clear hr1
  obtain ⟨br, hbr⟩ : ∃ br, w3.heap.size = br := ⟨_, rfl⟩
  rw [hbr] at Hr
  have lt_r9 : br < w4.heap.size := blk_lt Hr.out
  have HRk : Hid (∀ {q}, BK Ar q → q < w4.heap.size) := Lib.hid fun h => (Hrr.out.bk' h).2
  have HRk1 : Hid (∀ {q}, BK A1 q → q < w4.heap.size) := Lib.hid fun h => (Hr1.out.bk' h).2
  have hxb : w.heap.size < w4.heap.size := blk_lt Hx.out; have hyb : w.heap.size + 1 < w4.heap.size := blk_lt Hy.out
  have qr2 := cell_alloc' (.cells #[.int .i64 d1.id, .bool d1.ans, .int .i64 d1.code, .string ⟨d1.nm.toArray⟩, .int .i64 d1.kd, .slice A1 d1.recs.length c1] 27) (cell_of_block (k := 2) Hr.out rfl).1
  have Hn := Lib.hid (alloc_new' w4 (.cells #[.int .i64 d1.id, .bool d1.ans, .int .i64 dr.code, .string ⟨d1.nm.toArray⟩, .int .i64 d1.kd, .slice A1 d1.recs.length c1] 27) (w4.heap.size) (by simp))
  have Hx' := Lib.hid (block_alloc Hx.out (.cells #[.int .i64 d1.id, .bool d1.ans, .int .i64 dr.code, .string ⟨d1.nm.toArray⟩, .int .i64 d1.kd, .slice A1 d1.recs.length c1] 27)); clear Hx; have Hx := Hx'; clear Hx'
  have Hy' := Lib.hid (block_alloc Hy.out (.cells #[.int .i64 d1.id, .bool d1.ans, .int .i64 dr.code, .string ⟨d1.nm.toArray⟩, .int .i64 d1.kd, .slice A1 d1.recs.length c1] 27)); clear Hy; have Hy := Hy'; clear Hy'
  have Hr' := Lib.hid (block_alloc Hr.out (.cells #[.int .i64 d1.id, .bool d1.ans, .int .i64 dr.code, .string ⟨d1.nm.toArray⟩, .int .i64 d1.kd, .slice A1 d1.recs.length c1] 27)); clear Hr; have Hr := Hr'; clear Hr'
  have HAx' := Lib.hid (HAx.out.alloc (.cells #[.int .i64 d1.id, .bool d1.ans, .int .i64 dr.code, .string ⟨d1.nm.toArray⟩, .int .i64 d1.kd, .slice A1 d1.recs.length c1] 27)); clear HAx; have HAx := HAx'; clear HAx'
  have HAy' := Lib.hid (HAy.out.alloc (.cells #[.int .i64 d1.id, .bool d1.ans, .int .i64 dr.code, .string ⟨d1.nm.toArray⟩, .int .i64 d1.kd, .slice A1 d1.recs.length c1] 27)); clear HAy; have HAy := HAy'; clear HAy'
  have Hrr' := Lib.hid (Hrr.out.alloc (.cells #[.int .i64 d1.id, .bool d1.ans, .int .i64 dr.code, .string ⟨d1.nm.toArray⟩, .int .i64 d1.kd, .slice A1 d1.recs.length c1] 27)); clear Hrr; have Hrr := Hrr'; clear Hrr'
  have Hr1' := Lib.hid (Hr1.out.alloc (.cells #[.int .i64 d1.id, .bool d1.ans, .int .i64 dr.code, .string ⟨d1.nm.toArray⟩, .int .i64 d1.kd, .slice A1 d1.recs.length c1] 27)); clear Hr1; have Hr1 := Hr1'; clear Hr1'
  have HB' := below_alloc (o := .cells #[.int .i64 d1.id, .bool d1.ans, .int .i64 dr.code, .string ⟨d1.nm.toArray⟩, .int .i64 d1.kd, .slice A1 d1.recs.length c1] 27) HB; clear HB; have HB := HB'; clear HB'
  go_upto_region 10 with fail
  obtain ⟨bn, hbn⟩ : ∃ bn, w4.heap.size = bn := ⟨_, rfl⟩
  rw [hbn] at Hn HRk HRk1 lt_r9 hxb hyb
  generalize w4.alloc (.cells #[.int .i64 d1.id, .bool d1.ans, .int .i64 dr.code, .string ⟨d1.nm.toArray⟩, .int .i64 d1.kd, .slice A1 d1.recs.length c1] 27) = W10 at *
  try rw [hbn]
  clear qr2 hbr hbn
  obtain ⟨i0, hi, hz0, hz1, hz2⟩ := info_parts infoRecF
  have HB := Lib.hid HB
  go_cut [] from 48 (fun wx => ∃ (ne : Msg) (A3 : Option Addr) (c3 : Nat), ne.fits ∧ ne.recs.length ≤ 20 ∧ wx.heap[bn]? = some (.cells #[.int .i64 ne.id, .bool ne.ans, .int .i64 ne.code, .string ⟨ne.nm.toArray⟩, .int .i64 ne.kd, .slice A3 ne.recs.length c3] 27 (0, 0)) ∧ RRow wx (bn + 1) A3 c3 ne.recs ∧ World.grownBy W10 wx (some bn))
  case first =>
    refine wp_region_held_drew (S := fun w' => w'.cell? ⟨br, 5, none⟩ = some (.slice Ar dr.recs.length cr)) (by kernel_rfl) ((cell_of_block (k := 5) Hr.out rfl).1) ?_
    intro hS
    have HnD : Hid (W10.drew.heap[bn]? = _) := Lib.hid Hn.out; have HrD : Hid (W10.drew.heap[br]? = _) := Lib.hid Hr.out; have Hr1D : Hid (RRow W10.drew _ A1 c1 d1.recs) := Lib.hid Hr1.out; have HrrD : Hid (RRow W10.drew _ Ar cr dr.recs) := Lib.hid Hrr.out
    have hg0 := grown_drewN (only_refl W10 bn) 1
    have hg0' : W10.grownBy W10.drew (some bn) := hg0; clear hg0
    have lbn := blk_lt HnD.out
    generalize W10.drew = Wd at *
    refine wpAnyH_take (i := 0) (oi := ⟨some 48, _, _, _, _, _⟩) (v := ?vt1x0) rfl (by kernel_rfl) (by kernel_rfl) (by kernel_rfl) (fun _ _ _ h => h) (Or.inl ⟨by rfl, ?hyt1x0⟩) (by exact hS) ?ret1x0
    case hyt1x0 => (intro ww hSw; (try dsimp only at hSw); go_simp; first | done | with_reducible rfl)
    try simp only [Act.put, List.setIfInBounds_toArray, List.set_cons_zero, List.set_cons_succ]
    refine wpAnyH_take (i := 3) (oi := ⟨some 51, _, _, _, _, _⟩) (v := ?vt1x3) rfl (by kernel_rfl) (by kernel_rfl) (by kernel_rfl) (fun _ _ _ h => h) (Or.inl ⟨by rfl, ?hyt1x3⟩) (by exact hS) ?ret1x3
    case hyt1x3 => (intro ww hSw; (try dsimp only at hSw); go_simp; first | done | with_reducible rfl)
    try simp only [Act.put, List.setIfInBounds_toArray, List.set_cons_zero, List.set_cons_succ]
    refine wpAnyH_take (i := 4) (oi := ⟨some 52, _, _, _, _, _⟩) (v := ?vt1x4) rfl (by kernel_rfl) (by kernel_rfl) (by kernel_rfl) (fun _ _ _ h => h) (Or.inl ⟨by rfl, ?hyt1x4⟩) (by exact hS) ?ret1x4
    case hyt1x4 => (intro ww hSw; (try dsimp only at hSw); go_simp; first | done | with_reducible rfl)
    try simp only [Act.put, List.setIfInBounds_toArray, List.set_cons_zero, List.set_cons_succ]
    refine wpAnyH_ready (rs := [1]) (by kernel_rfl) (by simp) ?_
    refine AllReadyH.cons (o := ⟨some 49, _, _, _, _, _⟩) rfl (fun K2 hK2 => ?_) AllReadyH.nil
    have dn1 := (cell_of_block (k := 5) HnD.out rfl).1
    go_simp
    refine hK2.out _ _ ((cell_of_block (k := 5) HrD.out rfl).1) (fun h2 => ?_)
    try simp only [Act.put, List.setIfInBounds_toArray, List.set_cons_zero, List.set_cons_succ]
    clear dn1
    refine wpAnyH_ready (rs := [2]) (by kernel_rfl) (by simp) ?_
    refine AllReadyH.cons (o := ⟨some 50, _, _, _, _, _⟩) rfl (fun K3 hK3 => ?_) AllReadyH.nil
    refine step_app rfl (.const (.slice none 0 0)) (.tmp 49) 25 rfl (SRow.nil 50 5 rcells Wd (bn + 1)) rcells_len i0 _ 56 Try.underlying25 hi hz0 hz1 hz2 rfl (by decide) 0 rfl _ _ _ d1.recs rfl rfl rfl (fun h0 => orow_lies (orow_ofS Hr1D.out) h0) (rc_one _) (by unfold maxLen; omega) (by omega) (by omega) ?_
    intro A2 c2 w9 ho hg ha
    have Hn9 := Lib.hid ((hg.block _ (blk_lt HnD.out) (fun e => by cases e)).trans HnD.out); have Hr9 := Lib.hid ((hg.block _ (blk_lt HrD.out) (fun e => by cases e)).trans HrD.out)
    have Hrr9 : Hid (RRow w9 _ Ar cr dr.recs) := Lib.hid (SRow.kept HrrD.out (fun x hx => hg.block x.block (HrrD.out.bk hx).2 (fun e => by cases e)))
    have hgA : Wd.grownBy w9 (some bn) := ⟨hg.os, hg.tape, hg.output, hg.size, fun i hi _ => hg.block i hi (fun e => by cases e)⟩
    have HOk : Hid (∀ {q}, BK A2 q → W10.heap.size ≤ q) := Lib.hid fun h => by rcases ha _ h with q | q; exact absurd q (bk_none _); exact Nat.le_trans hg0'.size q
    have hgB := hg0'.trans hgA; have HO := Lib.hid ho; have lb9 := blk_lt Hn9.out
    clear ho hg ha hgA
    refine hK3.out _ _ ((cell_of_block (k := 5) Hr9.out rfl).1) (fun h3 => ?_)
    try simp only [Act.put, List.setIfInBounds_toArray, List.set_cons_zero, List.set_cons_succ]
    refine wpAnyH_ready (rs := [5]) (by kernel_rfl) (by simp) ?_
    refine AllReadyH.cons (o := ⟨some 53, _, _, _, _, _⟩) rfl (fun K4 hK4 => ?_) AllReadyH.nil
    refine step_app rfl (.tmp 50) (.tmp 52) 25 rfl HO.out rcells_len i0 _ 56 Try.underlying25 hi hz0 hz1 hz2 rfl (by decide) _ (by simp) _ _ _ dr.recs rfl rfl rfl (fun h0 => orow_lies (orow_ofS Hrr9.out) h0) (rc_one _) (by unfold maxLen; have := hfr.2; omega) (by have := hfr.2; omega) (by omega) ?_
    intro A3 c3 w10 ho hg ha
    have Hn10 := Lib.hid ((hg.block _ (blk_lt Hn9.out) (fun e => by have := (HO.out.bk' (ob_bk e.symm)).1; omega)).trans Hn9.out); have Hr10 := Lib.hid ((hg.block _ (blk_lt Hr9.out) (fun e => by have := (HO.out.bk' (ob_bk e.symm)).1; omega)).trans Hr9.out)
    have HO3 := Lib.hid ho
    have HG3 := Lib.hid hg
    clear ho hg ha
    refine hK4.out _ _ ((cell_of_block (k := 5) Hr10.out rfl).1) (fun h4 => ?_)
    try simp only [Act.put, List.setIfInBounds_toArray, List.set_cons_zero, List.set_cons_succ]
    refine wpAnyH_take (i := 6) (oi := ⟨some 54, _, _, _, _, _⟩) (v := ?vt5x6) rfl (by kernel_rfl) (by kernel_rfl) (by kernel_rfl) (fun _ _ _ h => h) (Or.inl ⟨by rfl, ?hyt5x6⟩) (by exact (by exact (cell_of_block (k := 5) Hr10.out rfl).1)) ?ret5x6
    case hyt5x6 => (intro ww hSw; (try dsimp only at hSw); go_simp; first | done | with_reducible rfl)
    try simp only [Act.put, List.setIfInBounds_toArray, List.set_cons_zero, List.set_cons_succ]
    refine wpAnyH_ready (rs := [7]) (by kernel_rfl) (by simp) ?_
    refine AllReadyH.cons (o := ⟨none, _, _, _, _, _⟩) rfl (fun K6 hK6 => ?_) AllReadyH.nil
    have d9 := (cell_of_block (k := 5) Hn10.out rfl).1; have z9 := (cell_of_block (k := 5) Hn10.out rfl).2
    go_simp
    have Hr11 := Lib.hid (block_set_other (a := ⟨bn, 5, none⟩) (u := .slice A3 (d1.recs.length + dr.recs.length) c3) Hr10.out (by show bn ≠ br; omega))
    refine hK6.out _ _ ((cell_of_block (k := 5) Hr11.out rfl).1) (fun h6 => ?_)
    try simp only [Act.put, List.setIfInBounds_toArray, List.set_cons_zero, List.set_cons_succ]
    refine wpAnyH_done (by kernel_rfl) ?_ _
    clear d9 z9
    go_wp2_with fail
    go_meet
    have hln3 : (d1.recs ++ dr.recs).length = d1.recs.length + dr.recs.length := List.length_append
    refine ⟨⟨d1.id, d1.ans, dr.code, d1.nm, d1.kd, d1.recs ++ dr.recs⟩, A3, c3, near_fits hf1 h18 hfr.1 hfr.2 _, by show (d1.recs ++ dr.recs).length ≤ 20; rw [hln3]; have := hfr.2; omega, ?_, ?_, ?_⟩
    · dsimp only; rw [hln3]
      exact cells_eq (block_setCell (k := 5) Hn10.out) rfl
    · have hO3 : RRow w10 (bn + 1) A3 c3 (d1.recs ++ dr.recs) := HO3.out
      exact SRow.kept hO3 (fun x hx => Below.heap_setCell _ _ _ _ (fun e => by have := (hO3.bk hx).1; simp at e; omega))
    · have hO2 := HO.out
      refine only_set (p := ⟨bn, 5, none⟩) ?_ (.inl rfl) _
      refine ⟨HG3.out.os.trans hgB.os, HG3.out.tape.trans hgB.tape, HG3.out.output.trans hgB.output, Nat.le_trans hgB.size HG3.out.size, fun i hi2 hne => (HG3.out.block i (Nat.lt_of_lt_of_le hi2 hgB.size) (fun e => by have h9 := HOk.out (ob_bk e.symm); omega)).trans (hgB.block i hi2 hne)⟩
  case rest =>
    obtain ⟨ne, A3, c3, hfn, hn20, hnb, hnr, hgw⟩ := hcut
    have lbn := blk_lt Hn.out
    have Hx2 := Lib.hid (bblock_only hgw Hx.out (by omega)); have Hy2 := Lib.hid (bblock_only hgw Hy.out (by omega)); have Hr2 := Lib.hid (bblock_only hgw Hr.out (by omega))
    have Hrr2 : Hid (RRow wc _ Ar cr dr.recs) := Lib.hid (SRow.kept Hrr.out (fun z hz => hgw.block z.block (Hrr.out.bk hz).2 (fun e => by injection e with e; have := HRk.out ⟨z, hz, e⟩; omega)))
    have HB2 : Below w.heap.size w wc := ⟨hgw.os.trans HB.out.os, hgw.tape.trans HB.out.tape, hgw.output.trans HB.out.output, Nat.le_trans HB.out.size hgw.size, fun i hi => (hgw.block i (Nat.lt_of_lt_of_le hi HB.out.size) (fun e => by injection e with e; omega)).trans (HB.out.block i hi)⟩
    have HAx2 := Lib.hid (HAx0.out.below HB2); have HAy2 := Lib.hid (HAy0.out.below HB2)
    have HRn := Lib.hid hnr; have Hn2 := Lib.hid hnb
    clear hnr hnb hgw Hx Hy Hr Hn Hrr Hr1 HAx HAy HB HRk HRk1 lt_r9 hi hz0 hz1 hz2
    have Hx := Hx2; have Hy := Hy2; have Hr := Hr2; have Hn := Hn2; have Hrr := Hrr2; have HAx := HAx2; have HAy := HAy2; have HB := HB2; clear Hx2 Hy2 Hr2 Hn2 Hrr2 HAx2 HAy2 HB2
    have hz := HB.size
    have hm1 : ∃ k1 : Nat, min (few.size : Int) 1 = (k1 : Int) ∧ k1 ≤ few.size ∧ k1 ≤ 1 := ⟨min few.size 1, by omega, by omega, by omega⟩
    obtain ⟨k1, b8, hk1, hk11⟩ := hm1
    have b1 : (0 : Int) ≤ (k : Int) := by omega
    have b3 : (k : Int) ≤ (C.length : Int) := by omega
    have b4 : (k1 : Int) ≤ (few.size : Int) := by omega
    have b5 : (0 : Int) ≤ (k1 : Int) := by omega
    have q1 : ¬ 9223372036854775807 < k + k1 := by omega
    have q2 : ¬ 9223372036854775807 < k + k1 + (C.length - k) := by omega
    have q3 : ¬ 9223372036854775807 < C.length + 1 := by omega
    have q4 : ¬ 9223372036854775807 < C.length + 1 + few.size := by omega
    have q5 : ¬ 9223372036854775807 < min k C.length + min k1 few.size := by omega
    have q6 : ¬ 9223372036854775807 < min k C.length + min k1 few.size + (C.length - k) := by omega
    have q7 : ¬ 9223372036854775807 < min k C.length + k1 := by omega
    have q8 : ¬ 9223372036854775807 < min k C.length + k1 + (C.length - k) := by omega
    go_upto_region 11 with fail
    go_cut [77, 78, 79] (fun s77 s78 s79 wx => s77 = .slice (some ⟨wc.heap.size, 0, none⟩) 5 5 ∧ s78 = .int .i64 5 ∧ s79 = .int .i64 0 ∧ Below wc.heap.size wc wx ∧ wx.heap[wc.heap.size]? = some (.cells #[.string few, .string ⟨C.toArray⟩, .string ((⟨C.toArray⟩ : ByteArray).extract 0 k ++ few.extract 0 k1 ++ (⟨C.toArray⟩ : ByteArray).extract k C.length), .string ((⟨C.toArray⟩ : ByteArray).extract 0 k), .string ((⟨C.toArray⟩ : ByteArray) ++ ⟨#[46]⟩ ++ few)] 9))
    case first =>
      have HB11 := Below.refl wc.heap.size wc
      refine wp_region_held_drew (S := fun w' => Below wc.heap.size wc w') (by kernel_rfl) (HB11.drew) ?_
      intro hS
      refine wpAnyH_take (i := 0) (oi := ⟨some 55, _, _, _, _, _⟩) (v := ?vt7x0) rfl (by kernel_rfl) (by kernel_rfl) (by kernel_rfl) (fun _ _ _ h => h) (Or.inl ⟨by rfl, ?hyt7x0⟩) (by exact hS) ?ret7x0
      case hyt7x0 => (intro ww hSw; (try dsimp only at hSw); go_simp; first | done | with_reducible rfl)
      try simp only [Act.put, List.setIfInBounds_toArray, List.set_cons_zero, List.set_cons_succ]
      refine wpAnyH_take (i := 1) (oi := ⟨some 56, _, _, _, _, _⟩) (v := ?vt7x1) rfl (by kernel_rfl) (by kernel_rfl) (by kernel_rfl) (fun _ _ _ h => h) (Or.inl ⟨by rfl, ?hyt7x1⟩) (by exact hS) ?ret7x1
      case hyt7x1 => (intro ww hSw; (try dsimp only at hSw); go_simp; first | done | with_reducible rfl)
      try simp only [Act.put, List.setIfInBounds_toArray, List.set_cons_zero, List.set_cons_succ]
      refine wpAnyH_take (i := 2) (oi := ⟨some 57, _, _, _, _, _⟩) (v := ?vt7x2) rfl (by kernel_rfl) (by kernel_rfl) (by kernel_rfl) (fun _ _ _ h => h) (Or.inl ⟨by rfl, ?hyt7x2⟩) (by exact hS) ?ret7x2
      case hyt7x2 => (intro ww hSw; (try dsimp only at hSw); go_simp; first | done | with_reducible rfl)
      try simp only [Act.put, List.setIfInBounds_toArray, List.set_cons_zero, List.set_cons_succ]
      refine wpAnyH_take (i := 3) (oi := ⟨some 58, _, _, _, _, _⟩) (v := ?vt7x3) rfl (by kernel_rfl) (by kernel_rfl) (by kernel_rfl) (fun _ _ _ h => h) (Or.inl ⟨by rfl, ?hyt7x3⟩) (by exact hS) ?ret7x3
      case hyt7x3 => (intro ww hSw; (try dsimp only at hSw); go_simp; first | done | with_reducible rfl)
      try simp only [Act.put, List.setIfInBounds_toArray, List.set_cons_zero, List.set_cons_succ]
      refine wpAnyH_take (i := 4) (oi := ⟨some 59, _, _, _, _, _⟩) (v := ?vt7x4) rfl (by kernel_rfl) (by kernel_rfl) (by kernel_rfl) (fun _ _ _ h => h) (Or.inl ⟨by rfl, ?hyt7x4⟩) (by exact hS) ?ret7x4
      case hyt7x4 => (intro ww hSw; (try dsimp only at hSw); go_simp; first | done | with_reducible rfl)
      try simp only [Act.put, List.setIfInBounds_toArray, List.set_cons_zero, List.set_cons_succ]
      refine wpAnyH_take (i := 5) (oi := ⟨some 60, _, _, _, _, _⟩) (v := ?vt7x5) rfl (by kernel_rfl) (by kernel_rfl) (by kernel_rfl) (fun _ _ _ h => h) (Or.inl ⟨by rfl, ?hyt7x5⟩) (by exact hS) ?ret7x5
      case hyt7x5 => (intro ww hSw; (try dsimp only at hSw); go_simp; first | done | with_reducible rfl)
      try simp only [Act.put, List.setIfInBounds_toArray, List.set_cons_zero, List.set_cons_succ]
      refine wpAnyH_take (i := 6) (oi := ⟨some 61, _, _, _, _, _⟩) (v := ?vt7x6) rfl (by kernel_rfl) (by kernel_rfl) (by kernel_rfl) (fun _ _ _ h => h) (Or.inl ⟨by rfl, ?hyt7x6⟩) (by exact hS) ?ret7x6
      case hyt7x6 => (intro ww hSw; (try dsimp only at hSw); go_simp; first | done | with_reducible rfl)
      try simp only [Act.put, List.setIfInBounds_toArray, List.set_cons_zero, List.set_cons_succ]
      refine wpAnyH_take (i := 7) (oi := ⟨some 62, _, _, _, _, _⟩) (v := ?vt7x7) rfl (by kernel_rfl) (by kernel_rfl) (by kernel_rfl) (fun _ _ _ h => h) (Or.inl ⟨by rfl, ?hyt7x7⟩) (by exact hS) ?ret7x7
      case hyt7x7 => (intro ww hSw; (try dsimp only at hSw); go_simp; first | done | with_reducible rfl)
      try simp only [Act.put, List.setIfInBounds_toArray, List.set_cons_zero, List.set_cons_succ]
      refine wpAnyH_take (i := 8) (oi := ⟨some 63, _, _, _, _, _⟩) (v := ?vt7x8) rfl (by kernel_rfl) (by kernel_rfl) (by kernel_rfl) (fun _ _ _ h => h) (Or.inl ⟨by rfl, ?hyt7x8⟩) (by exact hS) ?ret7x8
      case hyt7x8 => (intro ww hSw; (try dsimp only at hSw); go_simp; first | done | with_reducible rfl)
      try simp only [Act.put, List.setIfInBounds_toArray, List.set_cons_zero, List.set_cons_succ]
      refine wpAnyH_take (i := 9) (oi := ⟨some 64, _, _, _, _, _⟩) (v := ?vt7x9) rfl (by kernel_rfl) (by kernel_rfl) (by kernel_rfl) (fun _ _ _ h => h) (Or.inl ⟨by rfl, ?hyt7x9⟩) (by exact hS) ?ret7x9
      case hyt7x9 => (intro ww hSw; (try dsimp only at hSw); go_simp; first | done | with_reducible rfl)
      try simp only [Act.put, List.setIfInBounds_toArray, List.set_cons_zero, List.set_cons_succ]
      refine wpAnyH_take (i := 10) (oi := ⟨some 65, _, _, _, _, _⟩) (v := ?vt7x10) rfl (by kernel_rfl) (by kernel_rfl) (by kernel_rfl) (fun _ _ _ h => h) (Or.inl ⟨by rfl, ?hyt7x10⟩) (by exact hS) ?ret7x10
      case hyt7x10 => (intro ww hSw; (try dsimp only at hSw); go_simp; first | done | with_reducible rfl)
      try simp only [Act.put, List.setIfInBounds_toArray, List.set_cons_zero, List.set_cons_succ]
      refine wpAnyH_take (i := 11) (oi := ⟨some 66, _, _, _, _, _⟩) (v := ?vt7x11) rfl (by kernel_rfl) (by kernel_rfl) (by kernel_rfl) (fun _ _ _ h => h) (Or.inl ⟨by rfl, ?hyt7x11⟩) (by exact hS) ?ret7x11
      case hyt7x11 => (intro ww hSw; (try dsimp only at hSw); go_simp; first | done | with_reducible rfl)
      try simp only [Act.put, List.setIfInBounds_toArray, List.set_cons_zero, List.set_cons_succ]
      refine wpAnyH_take (i := 12) (oi := ⟨some 67, _, _, _, _, _⟩) (v := ?vt7x12) rfl (by kernel_rfl) (by kernel_rfl) (by kernel_rfl) (fun _ _ _ h => h) (Or.inl ⟨by rfl, ?hyt7x12⟩) (by exact hS) ?ret7x12
      case hyt7x12 => (intro ww hSw; (try dsimp only at hSw); go_simp; first | done | with_reducible rfl)
      try simp only [Act.put, List.setIfInBounds_toArray, List.set_cons_zero, List.set_cons_succ]
      refine wpAnyH_take (i := 13) (oi := ⟨some 68, _, _, _, _, _⟩) (v := ?vt7x13) rfl (by kernel_rfl) (by kernel_rfl) (by kernel_rfl) (fun _ _ _ h => h) (Or.inl ⟨by rfl, ?hyt7x13⟩) (by exact hS) ?ret7x13
      case hyt7x13 => (intro ww hSw; (try dsimp only at hSw); go_simp; first | done | with_reducible rfl)
      try simp only [Act.put, List.setIfInBounds_toArray, List.set_cons_zero, List.set_cons_succ]
      refine wpAnyH_take (i := 14) (oi := ⟨some 69, _, _, _, _, _⟩) (v := ?vt7x14) rfl (by kernel_rfl) (by kernel_rfl) (by kernel_rfl) (fun _ _ _ h => h) (Or.inl ⟨by rfl, ?hyt7x14⟩) (by exact hS) ?ret7x14
      case hyt7x14 => (intro ww hSw; (try dsimp only at hSw); go_simp; first | done | with_reducible rfl)
      try simp only [Act.put, List.setIfInBounds_toArray, List.set_cons_zero, List.set_cons_succ]
      refine wpAnyH_take (i := 15) (oi := ⟨some 70, _, _, _, _, _⟩) (v := ?vt7x15) rfl (by kernel_rfl) (by kernel_rfl) (by kernel_rfl) (fun _ _ _ h => h) (Or.inl ⟨by rfl, ?hyt7x15⟩) (by exact hS) ?ret7x15
      case hyt7x15 => (intro ww hSw; (try dsimp only at hSw); go_simp; first | done | with_reducible rfl)
      try simp only [Act.put, List.setIfInBounds_toArray, List.set_cons_zero, List.set_cons_succ]
      refine wpAnyH_take (i := 16) (oi := ⟨some 71, _, _, _, _, _⟩) (v := ?vt7x16) rfl (by kernel_rfl) (by kernel_rfl) (by kernel_rfl) (fun _ _ _ h => h) (Or.inl ⟨by rfl, ?hyt7x16⟩) (by exact hS) ?ret7x16
      case hyt7x16 => (intro ww hSw; (try dsimp only at hSw); go_simp; first | done | with_reducible rfl)
      try simp only [Act.put, List.setIfInBounds_toArray, List.set_cons_zero, List.set_cons_succ]
      refine wpAnyH_take (i := 17) (oi := ⟨some 72, _, _, _, _, _⟩) (v := ?vt7x17) rfl (by kernel_rfl) (by kernel_rfl) (by kernel_rfl) (fun _ _ _ h => h) (Or.inl ⟨by rfl, ?hyt7x17⟩) (by exact hS) ?ret7x17
      case hyt7x17 => (intro ww hSw; (try dsimp only at hSw); go_simp; first | done | with_reducible rfl)
      try simp only [Act.put, List.setIfInBounds_toArray, List.set_cons_zero, List.set_cons_succ]
      refine wpAnyH_take (i := 18) (oi := ⟨some 73, _, _, _, _, _⟩) (v := ?vt7x18) rfl (by kernel_rfl) (by kernel_rfl) (by kernel_rfl) (fun _ _ _ h => h) (Or.inl ⟨by rfl, ?hyt7x18⟩) (by exact hS) ?ret7x18
      case hyt7x18 => (intro ww hSw; (try dsimp only at hSw); go_simp; first | done | with_reducible rfl)
      try simp only [Act.put, List.setIfInBounds_toArray, List.set_cons_zero, List.set_cons_succ]
      refine wpAnyH_take (i := 19) (oi := ⟨some 74, _, _, _, _, _⟩) (v := ?vt7x19) rfl (by kernel_rfl) (by kernel_rfl) (by kernel_rfl) (fun _ _ _ h => h) (Or.inl ⟨by rfl, ?hyt7x19⟩) (by exact hS) ?ret7x19
      case hyt7x19 => (intro ww hSw; (try dsimp only at hSw); go_simp; first | done | with_reducible rfl)
      try simp only [Act.put, List.setIfInBounds_toArray, List.set_cons_zero, List.set_cons_succ]
      refine wpAnyH_take (i := 20) (oi := ⟨some 75, _, _, _, _, _⟩) (v := ?vt7x20) rfl (by kernel_rfl) (by kernel_rfl) (by kernel_rfl) (fun _ _ _ h => h) (Or.inl ⟨by rfl, ?hyt7x20⟩) (by exact hS) ?ret7x20
      case hyt7x20 => (intro ww hSw; (try dsimp only at hSw); go_simp; first | done | with_reducible rfl)
      try simp only [Act.put, List.setIfInBounds_toArray, List.set_cons_zero, List.set_cons_succ]
      refine wpAnyH_take (i := 21) (oi := ⟨some 76, _, _, _, _, _⟩) (v := ?vt7x21) rfl (by kernel_rfl) (by kernel_rfl) (by kernel_rfl) (fun _ _ _ h => h) (Or.inl ⟨by rfl, ?hyt7x21⟩) (by exact hS) ?ret7x21
      case hyt7x21 => (intro ww hSw; (try dsimp only at hSw); go_simp; first | done | with_reducible rfl)
      try simp only [Act.put, List.setIfInBounds_toArray, List.set_cons_zero, List.set_cons_succ]
      refine wpAnyH_take (i := 24) (oi := ⟨some 79, _, _, _, _, _⟩) (v := ?vt7x24) rfl (by kernel_rfl) (by kernel_rfl) (by kernel_rfl) (fun _ _ _ h => h) (Or.inl ⟨by rfl, ?hyt7x24⟩) (by exact hS) ?ret7x24
      case hyt7x24 => (intro ww hSw; (try dsimp only at hSw); go_simp; first | done | with_reducible rfl)
      try simp only [Act.put, List.setIfInBounds_toArray, List.set_cons_zero, List.set_cons_succ]
      refine wpAnyH_ready (rs := [22]) (by kernel_rfl) (by simp) ?_
      refine AllReadyH.cons (o := ⟨some 77, _, _, _, _, _⟩) rfl (fun K8 hK8 => ?_) AllReadyH.nil
      go_simp
      refine hK8.out _ _ (below_alloc HB11.drew) (fun h8 => ?_)
      try simp only [Act.put, List.setIfInBounds_toArray, List.set_cons_zero, List.set_cons_succ]
      refine wpAnyH_take (i := 23) (oi := ⟨some 78, _, _, _, _, _⟩) (v := ?vt9x23) rfl (by kernel_rfl) (by kernel_rfl) (by kernel_rfl) (fun _ _ _ h => h) (Or.inl ⟨by rfl, ?hyt9x23⟩) (by exact (by exact h8)) ?ret9x23
      case hyt9x23 => (intro ww hSw; (try dsimp only at hSw); go_simp; first | done | with_reducible rfl)
      try simp only [Act.put, List.setIfInBounds_toArray, List.set_cons_zero, List.set_cons_succ]
      refine wpAnyH_done (by kernel_rfl) ?_ _
      go_wp2_with fail
      go_meet
      exact ⟨rfl, rfl, rfl, below_alloc HB11.drew, alloc_new' _ _ _ (by simp)⟩
    case rest =>
      obtain ⟨rfl, rfl, rfl, hb, hSx⟩ := hcut
      have HS := Lib.hid hSx; clear hSx
      clear b1 b3 b4 b5 b8 q1 q2 q3 q4 q5 q6 q7 q8
      have Hx' := Lib.hid (bblock hb Hx.out); clear Hx; have Hx := Hx'; clear Hx'
      have Hy' := Lib.hid (bblock hb Hy.out); clear Hy; have Hy := Hy'; clear Hy'
      have Hr' := Lib.hid (bblock hb Hr.out); clear Hr; have Hr := Hr'; clear Hr'
      have Hn' := Lib.hid (bblock hb Hn.out); clear Hn; have Hn := Hn'; clear Hn'
      have HAx' := Lib.hid (HAx.out.below hb); clear HAx; have HAx := HAx'; clear HAx'
      have HAy' := Lib.hid (HAy.out.below hb); clear HAy; have HAy := HAy'; clear HAy'
      have Hrr' := Lib.hid (Hrr.out.below hb); clear Hrr; have Hrr := Hrr'; clear Hrr'
      have HRn' := Lib.hid (HRn.out.below hb); clear HRn; have HRn := HRn'; clear HRn'
      have HB' := below_call HB hb; clear HB hb; have HB := HB'; clear HB'; have hz := HB.size
      obtain ⟨b0, rfl⟩ : ∃ wo : World, wo = wc := ⟨_, rfl⟩
      go_wp2_with fail
      go_loopw [79] (fun i wl => ∃ j : Nat, j ≤ 5 ∧ i = .int .i64 (j : Int) ∧ Below b0.heap.size b0 wl) (fun i _ => 5 - (intOf i).toNat)
      case atStart => exact ⟨0, by omega, rfl, Below.refl _ _⟩
      case round =>
        obtain ⟨j, hj, rfl, HR⟩ := hrel
        obtain ⟨wo, rfl⟩ : ∃ wo : World, wo = wr := ⟨_, rfl⟩
        by_cases hlt : j < 5
        · as_aux_lemma =>
          obtain ⟨v, hv, cy⟩ := cells5n HS.out hc60 hfs j hlt
          have gy := bcell HR cy; clear cy
          have lt_S := blk_lt HS.out; have hzo := HR.size
          have hjl : decide ((j : Int) < 5) = true := by simp; omega
          have hj0 : (0 : Int) ≤ (j : Int) := by omega
          have HV1 := Lib.hid fun W => vname_any v W (by omega); have HV2 := Lib.hid fun W => rvname_any v W (by omega)
          generalize nameB v.data.toList = vb at *
          have HB := HR; clear HR
          go_wp2_with fail
          clear gy
          refine (HV1.out _).mono ?_
          rintro e w31 ⟨rfl, hb⟩
          have HB' := below_call HB hb; clear HB hb; have HB := HB'; clear HB'; have hz31 := HB.size
          go_wp2_with fail
          refine (HV2.out _).mono ?_
          rintro e w32 ⟨rfl, hb⟩
          have HB' := below_call HB hb; clear HB hb; have HB := HB'; clear HB'; have hz32 := HB.size
          go_wp2_with fail
          go_roundw
          case rel => exact ⟨j + 1, by omega, by go_num, HB⟩
          case measure => simp [intOf]; omega
        · have hjl : decide ((j : Int) < 5) = false := by simp; omega
          clear hj hlt
          clear HS
          have hb := HR; clear HR
          have Hx' := Lib.hid (bblock hb Hx.out); clear Hx; have Hx := Hx'; clear Hx'
          have Hy' := Lib.hid (bblock hb Hy.out); clear Hy; have Hy := Hy'; clear Hy'
          have Hr' := Lib.hid (bblock hb Hr.out); clear Hr; have Hr := Hr'; clear Hr'
          have Hn' := Lib.hid (bblock hb Hn.out); clear Hn; have Hn := Hn'; clear Hn'
          have HAx' := Lib.hid (HAx.out.below hb); clear HAx; have HAx := HAx'; clear HAx'
          have HAy' := Lib.hid (HAy.out.below hb); clear HAy; have HAy := HAy'; clear HAy'
          have Hrr' := Lib.hid (Hrr.out.below hb); clear Hrr; have Hrr := Hrr'; clear Hrr'
          have HRn' := Lib.hid (HRn.out.below hb); clear HRn; have HRn := HRn'; clear HRn'
          have HB' := below_call HB hb; clear HB hb; have HB := HB'; clear HB'; have hz := HB.size
          go_upto_region 17 with fail
          have HRf := Below.refl wo.heap.size wo
          have HL9 := Lib.hid HB; clear HB
          go_cut [95, 96, 97] (fun s95 s96 s97 wx => ∃ (B4 : Nat) (A5 A6 : Option Addr) (c5 c6 l5 l6 : Nat), s95 = .slice (some ⟨B4, 0, none⟩) 4 4 ∧ s96 = .int .i64 4 ∧ s97 = .int .i64 0 ∧ Below wo.heap.size wo wx ∧ wx.heap[B4]? = some (.cells #[.int .i64 d1.id, .bool d1.ans, .int .i64 d1.code, .string ⟨d1.nm.toArray⟩, .int .i64 d1.kd, .slice A5 d1.recs.length c5, .int .i64 d2.id, .bool d2.ans, .int .i64 d2.code, .string ⟨d2.nm.toArray⟩, .int .i64 d2.kd, .slice A6 d2.recs.length c6, .int .i64 dr.id, .bool dr.ans, .int .i64 dr.code, .string ⟨dr.nm.toArray⟩, .int .i64 dr.kd, .slice Ar dr.recs.length cr, .int .i64 ne.id, .bool ne.ans, .int .i64 ne.code, .string ⟨ne.nm.toArray⟩, .int .i64 ne.kd, .slice A3 ne.recs.length c3] 27) ∧ RRow wx l5 A5 c5 d1.recs ∧ RRow wx l6 A6 c6 d2.recs)
          case first =>
            have HD := Lib.hid HRf.drew
            refine wp_region_held_drew (S := fun w' => w'.cell? ⟨w.heap.size, 0, none⟩ = some (.int .i64 x.id) ∧ w'.cell? ⟨w.heap.size, 1, none⟩ = some (.bool x.ans) ∧ w'.cell? ⟨w.heap.size, 2, none⟩ = some (.int .i64 x.code) ∧ w'.cell? ⟨w.heap.size, 3, none⟩ = some (.int .i64 x.nm) ∧ w'.cell? ⟨w.heap.size, 4, none⟩ = some (.bool x.alias) ∧ w'.cell? ⟨w.heap.size, 5, none⟩ = some (.slice Ax nx cx) ∧ w'.cell? ⟨w.heap.size + 1, 0, none⟩ = some (.int .i64 y.id) ∧ w'.cell? ⟨w.heap.size + 1, 1, none⟩ = some (.bool y.ans) ∧ w'.cell? ⟨w.heap.size + 1, 2, none⟩ = some (.int .i64 y.code) ∧ w'.cell? ⟨w.heap.size + 1, 3, none⟩ = some (.int .i64 y.nm) ∧ w'.cell? ⟨w.heap.size + 1, 4, none⟩ = some (.bool y.alias) ∧ w'.cell? ⟨w.heap.size + 1, 5, none⟩ = some (.slice Ay ny cy) ∧ w'.cell? ⟨br, 0, none⟩ = some (.int .i64 dr.id) ∧ w'.cell? ⟨br, 1, none⟩ = some (.bool dr.ans) ∧ w'.cell? ⟨br, 2, none⟩ = some (.int .i64 dr.code) ∧ w'.cell? ⟨br, 3, none⟩ = some (.string ⟨dr.nm.toArray⟩) ∧ w'.cell? ⟨br, 4, none⟩ = some (.int .i64 dr.kd) ∧ w'.cell? ⟨br, 5, none⟩ = some (.slice Ar dr.recs.length cr) ∧ w'.cell? ⟨bn, 0, none⟩ = some (.int .i64 ne.id) ∧ w'.cell? ⟨bn, 1, none⟩ = some (.bool ne.ans) ∧ w'.cell? ⟨bn, 2, none⟩ = some (.int .i64 ne.code) ∧ w'.cell? ⟨bn, 3, none⟩ = some (.string ⟨ne.nm.toArray⟩) ∧ w'.cell? ⟨bn, 4, none⟩ = some (.int .i64 ne.kd) ∧ w'.cell? ⟨bn, 5, none⟩ = some (.slice A3 ne.recs.length c3)) (by kernel_rfl) (⟨(cell_of_block (k := 0) Hx.out rfl).1, (cell_of_block (k := 1) Hx.out rfl).1, (cell_of_block (k := 2) Hx.out rfl).1, (cell_of_block (k := 3) Hx.out rfl).1, (cell_of_block (k := 4) Hx.out rfl).1, (cell_of_block (k := 5) Hx.out rfl).1, (cell_of_block (k := 0) Hy.out rfl).1, (cell_of_block (k := 1) Hy.out rfl).1, (cell_of_block (k := 2) Hy.out rfl).1, (cell_of_block (k := 3) Hy.out rfl).1, (cell_of_block (k := 4) Hy.out rfl).1, (cell_of_block (k := 5) Hy.out rfl).1, (cell_of_block (k := 0) Hr.out rfl).1, (cell_of_block (k := 1) Hr.out rfl).1, (cell_of_block (k := 2) Hr.out rfl).1, (cell_of_block (k := 3) Hr.out rfl).1, (cell_of_block (k := 4) Hr.out rfl).1, (cell_of_block (k := 5) Hr.out rfl).1, (cell_of_block (k := 0) Hn.out rfl).1, (cell_of_block (k := 1) Hn.out rfl).1, (cell_of_block (k := 2) Hn.out rfl).1, (cell_of_block (k := 3) Hn.out rfl).1, (cell_of_block (k := 4) Hn.out rfl).1, (cell_of_block (k := 5) Hn.out rfl).1⟩) ?_
            intro hS
            have Hx' : Hid (wo.drew.heap[w.heap.size]? = _) := Lib.hid Hx.out; clear Hx; have Hx := Hx'; clear Hx'
            have Hy' : Hid (wo.drew.heap[w.heap.size + 1]? = _) := Lib.hid Hy.out; clear Hy; have Hy := Hy'; clear Hy'
            have Hr' : Hid (wo.drew.heap[br]? = _) := Lib.hid Hr.out; clear Hr; have Hr := Hr'; clear Hr'
            have Hn' : Hid (wo.drew.heap[bn]? = _) := Lib.hid Hn.out; clear Hn; have Hn := Hn'; clear Hn'
            have HAx' : Hid (RArg wo.drew Ax nx x.recs) := Lib.hid HAx.out; have HAy' : Hid (RArg wo.drew Ay ny y.recs) := Lib.hid HAy.out; clear HAx HAy; have HAx := HAx'; have HAy := HAy'
            generalize wo.drew = wd at *
            refine wpAnyH_take (i := 0) (oi := ⟨some 89, _, _, _, _, _⟩) (v := ?vt10x0) rfl (by kernel_rfl) (by kernel_rfl) (by kernel_rfl) (fun _ _ _ h => h) (Or.inl ⟨by rfl, ?hyt10x0⟩) (by exact hS) ?ret10x0
            case hyt10x0 => (intro ww hSw; (try dsimp only at hSw); go_simp; first | done | with_reducible rfl)
            try simp only [Act.put, List.setIfInBounds_toArray, List.set_cons_zero, List.set_cons_succ]
            refine wpAnyH_take (i := 2) (oi := ⟨some 91, _, _, _, _, _⟩) (v := ?vt10x2) rfl (by kernel_rfl) (by kernel_rfl) (by kernel_rfl) (fun _ _ _ h => h) (Or.inl ⟨by rfl, ?hyt10x2⟩) (by exact hS) ?ret10x2
            case hyt10x2 => (intro ww hSw; (try dsimp only at hSw); go_simp; first | done | with_reducible rfl)
            try simp only [Act.put, List.setIfInBounds_toArray, List.set_cons_zero, List.set_cons_succ]
            refine wpAnyH_take (i := 4) (oi := ⟨some 93, _, _, _, _, _⟩) (v := ?vt10x4) rfl (by kernel_rfl) (by kernel_rfl) (by kernel_rfl) (fun _ _ _ h => h) (Or.inl ⟨by rfl, ?hyt10x4⟩) (by exact hS) ?ret10x4
            case hyt10x4 => (intro ww hSw; (try dsimp only at hSw); go_simp; first | done | with_reducible rfl)
            try simp only [Act.put, List.setIfInBounds_toArray, List.set_cons_zero, List.set_cons_succ]
            refine wpAnyH_take (i := 5) (oi := ⟨some 94, _, _, _, _, _⟩) (v := ?vt10x5) rfl (by kernel_rfl) (by kernel_rfl) (by kernel_rfl) (fun _ _ _ h => h) (Or.inl ⟨by rfl, ?hyt10x5⟩) (by exact hS) ?ret10x5
            case hyt10x5 => (intro ww hSw; (try dsimp only at hSw); go_simp; first | done | with_reducible rfl)
            try simp only [Act.put, List.setIfInBounds_toArray, List.set_cons_zero, List.set_cons_succ]
            refine wpAnyH_take (i := 8) (oi := ⟨some 97, _, _, _, _, _⟩) (v := ?vt10x8) rfl (by kernel_rfl) (by kernel_rfl) (by kernel_rfl) (fun _ _ _ h => h) (Or.inl ⟨by rfl, ?hyt10x8⟩) (by exact hS) ?ret10x8
            case hyt10x8 => (intro ww hSw; (try dsimp only at hSw); go_simp; first | done | with_reducible rfl)
            try simp only [Act.put, List.setIfInBounds_toArray, List.set_cons_zero, List.set_cons_succ]
            refine wpAnyH_ready (rs := [1]) (by kernel_rfl) (by simp) ?_
            refine AllReadyH.cons (o := ⟨some 90, _, _, _, _, _⟩) rfl (fun K11 hK11 => ?_) AllReadyH.nil
            go_simp
            refine (HX.out _ HAx.out).mono ?_
            rintro e v1 ⟨A5, c5, rfl, hr5, hb1⟩
            dsimp only
            have Hx' := Lib.hid (bblock hb1 Hx.out); clear Hx; have Hx := Hx'; clear Hx'
            have Hy' := Lib.hid (bblock hb1 Hy.out); clear Hy; have Hy := Hy'; clear Hy'
            have Hr' := Lib.hid (bblock hb1 Hr.out); clear Hr; have Hr := Hr'; clear Hr'
            have Hn' := Lib.hid (bblock hb1 Hn.out); clear Hn; have Hn := Hn'; clear Hn'
            have HAy2 := Lib.hid (HAy.out.below hb1); have HD1 := Lib.hid (below_call HD.out hb1); have H5 := Lib.hid hr5; clear hb1 hr5 HAy
            refine hK11.out _ _ (⟨(cell_of_block (k := 0) Hx.out rfl).1, (cell_of_block (k := 1) Hx.out rfl).1, (cell_of_block (k := 2) Hx.out rfl).1, (cell_of_block (k := 3) Hx.out rfl).1, (cell_of_block (k := 4) Hx.out rfl).1, (cell_of_block (k := 5) Hx.out rfl).1, (cell_of_block (k := 0) Hy.out rfl).1, (cell_of_block (k := 1) Hy.out rfl).1, (cell_of_block (k := 2) Hy.out rfl).1, (cell_of_block (k := 3) Hy.out rfl).1, (cell_of_block (k := 4) Hy.out rfl).1, (cell_of_block (k := 5) Hy.out rfl).1, (cell_of_block (k := 0) Hr.out rfl).1, (cell_of_block (k := 1) Hr.out rfl).1, (cell_of_block (k := 2) Hr.out rfl).1, (cell_of_block (k := 3) Hr.out rfl).1, (cell_of_block (k := 4) Hr.out rfl).1, (cell_of_block (k := 5) Hr.out rfl).1, (cell_of_block (k := 0) Hn.out rfl).1, (cell_of_block (k := 1) Hn.out rfl).1, (cell_of_block (k := 2) Hn.out rfl).1, (cell_of_block (k := 3) Hn.out rfl).1, (cell_of_block (k := 4) Hn.out rfl).1, (cell_of_block (k := 5) Hn.out rfl).1⟩) (fun h11 => ?_)
            try simp only [Act.put, List.setIfInBounds_toArray, List.set_cons_zero, List.set_cons_succ]
            refine wpAnyH_ready (rs := [3]) (by kernel_rfl) (by simp) ?_
            refine AllReadyH.cons (o := ⟨some 92, _, _, _, _, _⟩) rfl (fun K12 hK12 => ?_) AllReadyH.nil
            go_simp
            refine (HY.out _ HAy2.out).mono ?_
            rintro e v2 ⟨A6, c6, rfl, hr6, hb2⟩
            dsimp only
            have Hx' := Lib.hid (bblock hb2 Hx.out); clear Hx; have Hx := Hx'; clear Hx'
            have Hy' := Lib.hid (bblock hb2 Hy.out); clear Hy; have Hy := Hy'; clear Hy'
            have Hr' := Lib.hid (bblock hb2 Hr.out); clear Hr; have Hr := Hr'; clear Hr'
            have Hn' := Lib.hid (bblock hb2 Hn.out); clear Hn; have Hn := Hn'; clear Hn'
            have HD2 := Lib.hid (below_call HD1.out hb2); have H5' := Lib.hid (RRow.below H5.out hb2); have H6 := Lib.hid hr6; clear hb2 hr6
            refine hK12.out _ _ (⟨(cell_of_block (k := 0) Hx.out rfl).1, (cell_of_block (k := 1) Hx.out rfl).1, (cell_of_block (k := 2) Hx.out rfl).1, (cell_of_block (k := 3) Hx.out rfl).1, (cell_of_block (k := 4) Hx.out rfl).1, (cell_of_block (k := 5) Hx.out rfl).1, (cell_of_block (k := 0) Hy.out rfl).1, (cell_of_block (k := 1) Hy.out rfl).1, (cell_of_block (k := 2) Hy.out rfl).1, (cell_of_block (k := 3) Hy.out rfl).1, (cell_of_block (k := 4) Hy.out rfl).1, (cell_of_block (k := 5) Hy.out rfl).1, (cell_of_block (k := 0) Hr.out rfl).1, (cell_of_block (k := 1) Hr.out rfl).1, (cell_of_block (k := 2) Hr.out rfl).1, (cell_of_block (k := 3) Hr.out rfl).1, (cell_of_block (k := 4) Hr.out rfl).1, (cell_of_block (k := 5) Hr.out rfl).1, (cell_of_block (k := 0) Hn.out rfl).1, (cell_of_block (k := 1) Hn.out rfl).1, (cell_of_block (k := 2) Hn.out rfl).1, (cell_of_block (k := 3) Hn.out rfl).1, (cell_of_block (k := 4) Hn.out rfl).1, (cell_of_block (k := 5) Hn.out rfl).1⟩) (fun h12 => ?_)
            try simp only [Act.put, List.setIfInBounds_toArray, List.set_cons_zero, List.set_cons_succ]
            refine wpAnyH_ready (rs := [6]) (by kernel_rfl) (by simp) ?_
            refine AllReadyH.cons (o := ⟨some 95, _, _, _, _, _⟩) rfl (fun K13 hK13 => ?_) AllReadyH.nil
            go_simp
            have Hx' := Lib.hid (block_alloc Hx.out (.cells #[.int .i64 d1.id, .bool d1.ans, .int .i64 d1.code, .string ⟨d1.nm.toArray⟩, .int .i64 d1.kd, .slice A5 d1.recs.length c5, .int .i64 d2.id, .bool d2.ans, .int .i64 d2.code, .string ⟨d2.nm.toArray⟩, .int .i64 d2.kd, .slice A6 d2.recs.length c6, .int .i64 dr.id, .bool dr.ans, .int .i64 dr.code, .string ⟨dr.nm.toArray⟩, .int .i64 dr.kd, .slice Ar dr.recs.length cr, .int .i64 ne.id, .bool ne.ans, .int .i64 ne.code, .string ⟨ne.nm.toArray⟩, .int .i64 ne.kd, .slice A3 ne.recs.length c3] 27)); clear Hx; have Hx := Hx'; clear Hx'
            have Hy' := Lib.hid (block_alloc Hy.out (.cells #[.int .i64 d1.id, .bool d1.ans, .int .i64 d1.code, .string ⟨d1.nm.toArray⟩, .int .i64 d1.kd, .slice A5 d1.recs.length c5, .int .i64 d2.id, .bool d2.ans, .int .i64 d2.code, .string ⟨d2.nm.toArray⟩, .int .i64 d2.kd, .slice A6 d2.recs.length c6, .int .i64 dr.id, .bool dr.ans, .int .i64 dr.code, .string ⟨dr.nm.toArray⟩, .int .i64 dr.kd, .slice Ar dr.recs.length cr, .int .i64 ne.id, .bool ne.ans, .int .i64 ne.code, .string ⟨ne.nm.toArray⟩, .int .i64 ne.kd, .slice A3 ne.recs.length c3] 27)); clear Hy; have Hy := Hy'; clear Hy'
            have Hr' := Lib.hid (block_alloc Hr.out (.cells #[.int .i64 d1.id, .bool d1.ans, .int .i64 d1.code, .string ⟨d1.nm.toArray⟩, .int .i64 d1.kd, .slice A5 d1.recs.length c5, .int .i64 d2.id, .bool d2.ans, .int .i64 d2.code, .string ⟨d2.nm.toArray⟩, .int .i64 d2.kd, .slice A6 d2.recs.length c6, .int .i64 dr.id, .bool dr.ans, .int .i64 dr.code, .string ⟨dr.nm.toArray⟩, .int .i64 dr.kd, .slice Ar dr.recs.length cr, .int .i64 ne.id, .bool ne.ans, .int .i64 ne.code, .string ⟨ne.nm.toArray⟩, .int .i64 ne.kd, .slice A3 ne.recs.length c3] 27)); clear Hr; have Hr := Hr'; clear Hr'
            have Hn' := Lib.hid (block_alloc Hn.out (.cells #[.int .i64 d1.id, .bool d1.ans, .int .i64 d1.code, .string ⟨d1.nm.toArray⟩, .int .i64 d1.kd, .slice A5 d1.recs.length c5, .int .i64 d2.id, .bool d2.ans, .int .i64 d2.code, .string ⟨d2.nm.toArray⟩, .int .i64 d2.kd, .slice A6 d2.recs.length c6, .int .i64 dr.id, .bool dr.ans, .int .i64 dr.code, .string ⟨dr.nm.toArray⟩, .int .i64 dr.kd, .slice Ar dr.recs.length cr, .int .i64 ne.id, .bool ne.ans, .int .i64 ne.code, .string ⟨ne.nm.toArray⟩, .int .i64 ne.kd, .slice A3 ne.recs.length c3] 27)); clear Hn; have Hn := Hn'; clear Hn'
            refine hK13.out _ _ (⟨(cell_of_block (k := 0) Hx.out rfl).1, (cell_of_block (k := 1) Hx.out rfl).1, (cell_of_block (k := 2) Hx.out rfl).1, (cell_of_block (k := 3) Hx.out rfl).1, (cell_of_block (k := 4) Hx.out rfl).1, (cell_of_block (k := 5) Hx.out rfl).1, (cell_of_block (k := 0) Hy.out rfl).1, (cell_of_block (k := 1) Hy.out rfl).1, (cell_of_block (k := 2) Hy.out rfl).1, (cell_of_block (k := 3) Hy.out rfl).1, (cell_of_block (k := 4) Hy.out rfl).1, (cell_of_block (k := 5) Hy.out rfl).1, (cell_of_block (k := 0) Hr.out rfl).1, (cell_of_block (k := 1) Hr.out rfl).1, (cell_of_block (k := 2) Hr.out rfl).1, (cell_of_block (k := 3) Hr.out rfl).1, (cell_of_block (k := 4) Hr.out rfl).1, (cell_of_block (k := 5) Hr.out rfl).1, (cell_of_block (k := 0) Hn.out rfl).1, (cell_of_block (k := 1) Hn.out rfl).1, (cell_of_block (k := 2) Hn.out rfl).1, (cell_of_block (k := 3) Hn.out rfl).1, (cell_of_block (k := 4) Hn.out rfl).1, (cell_of_block (k := 5) Hn.out rfl).1⟩) (fun h13 => ?_)
            try simp only [Act.put, List.setIfInBounds_toArray, List.set_cons_zero, List.set_cons_succ]
            refine wpAnyH_take (i := 7) (oi := ⟨some 96, _, _, _, _, _⟩) (v := ?vt14x7) rfl (by kernel_rfl) (by kernel_rfl) (by kernel_rfl) (fun _ _ _ h => h) (Or.inl ⟨by rfl, ?hyt14x7⟩) (by exact (by exact h13)) ?ret14x7
            case hyt14x7 => (intro ww hSw; (try dsimp only at hSw); go_simp; first | done | with_reducible rfl)
            try simp only [Act.put, List.setIfInBounds_toArray, List.set_cons_zero, List.set_cons_succ]
            refine wpAnyH_done (by kernel_rfl) ?_ _
            go_wp2_with fail
            go_meet
            exact ⟨_, A5, A6, c5, c6, _, _, rfl, rfl, rfl, below_alloc HD2.out, alloc_new _ _, H5'.out.alloc _, H6.out.alloc _⟩
          case rest =>
            obtain ⟨B4, A5, A6, c5, c6, l5, l6, rfl, rfl, rfl, hb, hS4, hr5, hr6⟩ := hcut
            have HB := HL9.out
            have Hx' := Lib.hid (bblock hb Hx.out); clear Hx; have Hx := Hx'; clear Hx'
            have Hy' := Lib.hid (bblock hb Hy.out); clear Hy; have Hy := Hy'; clear Hy'
            have Hr' := Lib.hid (bblock hb Hr.out); clear Hr; have Hr := Hr'; clear Hr'
            have Hn' := Lib.hid (bblock hb Hn.out); clear Hn; have Hn := Hn'; clear Hn'
            have HAx' := Lib.hid (HAx.out.below hb); clear HAx; have HAx := HAx'; clear HAx'
            have HAy' := Lib.hid (HAy.out.below hb); clear HAy; have HAy := HAy'; clear HAy'
            have Hrr' := Lib.hid (Hrr.out.below hb); clear Hrr; have Hrr := Hrr'; clear Hrr'
            have HRn' := Lib.hid (HRn.out.below hb); clear HRn; have HRn := HRn'; clear HRn'
            have HB' := below_call HB hb; clear HB hb; have HB := HB'; clear HB'; have hz := HB.size
            have HS4 := Lib.hid hS4; have HR5 := Lib.hid hr5; have HR6 := Lib.hid hr6; clear hS4 hr5 hr6
            obtain ⟨b1, rfl⟩ : ∃ wo : World, wo = wc := ⟨_, rfl⟩
            go_wp2_with fail
            go_loopw [97] (fun i wl => ∃ j : Nat, j ≤ 4 ∧ i = .int .i64 (j : Int) ∧ Below b1.heap.size b1 wl) (fun i _ => 4 - (intOf i).toNat)
            case atStart => exact ⟨0, by omega, rfl, Below.refl _ _⟩
            case round =>
              obtain ⟨j, hj, rfl, HR⟩ := hrel
              obtain ⟨wi, rfl⟩ : ∃ wo : World, wo = wr := ⟨_, rfl⟩
              by_cases hlt : j < 4
              · as_aux_lemma =>
                obtain ⟨d, Ad, cd, ld, hfd, hrd, g0, g1, g2, g3, g4, g5⟩ := msg4 HS4.out hf1 hf2 hfr.1 hfn HR5.out HR6.out Hrr.out HRn.out j hlt
                have hdl := hfd.2.1
                have y0 := bcell HR g0; have y1 := bcell HR g1; have y2 := bcell HR g2; have y3 := bcell HR g3; have y4 := bcell HR g4; have y5 := bcell HR g5; clear g0 g1 g2 g3 g4 g5
                have Hrd := Lib.hid hrd; clear hrd
                have hb := HR; have HB := Below.refl b1.heap.size b1
                clear HB
                have HB := Below.refl b1.heap.size b1
                have Hx' := Lib.hid (bblock hb Hx.out); clear Hx; have Hx := Hx'; clear Hx'
                have Hn' := Lib.hid (bblock hb Hn.out); clear Hn; have Hn := Hn'; clear Hn'
                have HAx' := Lib.hid (HAx.out.below hb); clear HAx; have HAx := HAx'; clear HAx'
                have HRn' := Lib.hid (HRn.out.below hb); clear HRn; have HRn := HRn'; clear HRn'
                have Hrd' := Lib.hid (Hrd.out.below hb); clear Hrd; have Hrd := Hrd'; clear Hrd'
                have HB' := below_call HB hb; clear HB hb; have HB := HB'; clear HB'; have hz := HB.size
                have lt_S := blk_lt HS4.out
                have hjl : decide ((j : Int) < 4) = true := by simp; omega
                have hj0 : (0 : Int) ≤ (j : Int) := by omega
                obtain ⟨st, er, hE, hRE⟩ := enc_both d hfd
                have HE := Lib.hid hE; have HRE := Lib.hid hRE; clear hE hRE
                have HV := Lib.hid (val_both d hfd).1; have HRV := Lib.hid (val_both d hfd).2
                have HSa := Lib.hid (sameL d ne (by omega) (by omega)); have HSb := Lib.hid (rsameL d ne (by omega) (by omega)); have HSc := Lib.hid (sameL d1 d (by omega) (by omega)); have HSd := Lib.hid (rsameL d1 d (by omega) (by omega))
                generalize msgB d = vb at *
                generalize decide (d = ne) = va at *
                generalize decide (d1 = d) = vc at *
                clear HS4 HR5 HR6 Hrr Hr Hy HAy HAx0 HAy0 hf1 hf2 hfr hfn hfd
                skip
                have Hm := Lib.hid (alloc_new' wi (.cells #[.int .i64 d.id, .bool d.ans, .int .i64 d.code, .string ⟨d.nm.toArray⟩, .int .i64 d.kd, .slice Ad d.recs.length cd] 27) (wi.heap.size) (by simp))
                have Hx' := Lib.hid (block_alloc Hx.out (.cells #[.int .i64 d.id, .bool d.ans, .int .i64 d.code, .string ⟨d.nm.toArray⟩, .int .i64 d.kd, .slice Ad d.recs.length cd] 27)); clear Hx; have Hx := Hx'; clear Hx'
                have Hn' := Lib.hid (block_alloc Hn.out (.cells #[.int .i64 d.id, .bool d.ans, .int .i64 d.code, .string ⟨d.nm.toArray⟩, .int .i64 d.kd, .slice Ad d.recs.length cd] 27)); clear Hn; have Hn := Hn'; clear Hn'
                have HAx' := Lib.hid (HAx.out.alloc (.cells #[.int .i64 d.id, .bool d.ans, .int .i64 d.code, .string ⟨d.nm.toArray⟩, .int .i64 d.kd, .slice Ad d.recs.length cd] 27)); clear HAx; have HAx := HAx'; clear HAx'
                have HRn' := Lib.hid (HRn.out.alloc (.cells #[.int .i64 d.id, .bool d.ans, .int .i64 d.code, .string ⟨d.nm.toArray⟩, .int .i64 d.kd, .slice Ad d.recs.length cd] 27)); clear HRn; have HRn := HRn'; clear HRn'
                have Hrd' := Lib.hid (Hrd.out.alloc (.cells #[.int .i64 d.id, .bool d.ans, .int .i64 d.code, .string ⟨d.nm.toArray⟩, .int .i64 d.kd, .slice Ad d.recs.length cd] 27)); clear Hrd; have Hrd := Hrd'; clear Hrd'
                have HB' := below_alloc (o := .cells #[.int .i64 d.id, .bool d.ans, .int .i64 d.code, .string ⟨d.nm.toArray⟩, .int .i64 d.kd, .slice Ad d.recs.length cd] 27) HB; clear HB; have HB := HB'; clear HB'
                have Sm := cells6 Hm.out
                obtain ⟨⟨qm0, qm1, qm2, qm3, qm4, qm5⟩, zm0, zm1, zm2, zm3, zm4, zm5⟩ := Sm
                have lt_m := blk_lt Hm.out
                go_wp2_with fail
                refine (HE.out _ _ _ _ Hrd.out).mono ?_
                rintro e w61 ⟨rfl, hb⟩
                have Hx' := Lib.hid (bblock hb Hx.out); clear Hx; have Hx := Hx'; clear Hx'
                have Hn' := Lib.hid (bblock hb Hn.out); clear Hn; have Hn := Hn'; clear Hn'
                have Hm' := Lib.hid (bblock hb Hm.out); clear Hm; have Hm := Hm'; clear Hm'
                have HAx' := Lib.hid (HAx.out.below hb); clear HAx; have HAx := HAx'; clear HAx'
                have HRn' := Lib.hid (HRn.out.below hb); clear HRn; have HRn := HRn'; clear HRn'
                have Hrd' := Lib.hid (Hrd.out.below hb); clear Hrd; have Hrd := Hrd'; clear Hrd'
                have HB' := below_call HB hb; clear HB hb; have HB := HB'; clear HB'; have hz61 := HB.size
                have lt_x_61 := blk_lt Hx.out
                have lt_n_61 := blk_lt Hn.out
                have lt_m_61 := blk_lt Hm.out
                clear y0 y1 y2 y3 y4 y5
                clear qm0 zm0 qm1 zm1 qm2 zm2 qm3 zm3 qm4 zm4 qm5 zm5
                have Sm := cells6 Hm.out
                obtain ⟨⟨qm0, qm1, qm2, qm3, qm4, qm5⟩, zm0, zm1, zm2, zm3, zm4, zm5⟩ := Sm
                have lt_m := blk_lt Hm.out
                go_wp2_with fail
                refine (HRE.out _ _ _ _ Hrd.out).mono ?_
                rintro e w62 ⟨rfl, hb⟩
                clear qm0 zm0 qm1 zm1 qm2 zm2 qm3 zm3 qm4 zm4 qm5 zm5
                have Hx' := Lib.hid (bblock hb Hx.out); clear Hx; have Hx := Hx'; clear Hx'
                have Hn' := Lib.hid (bblock hb Hn.out); clear Hn; have Hn := Hn'; clear Hn'
                have Hm' := Lib.hid (bblock hb Hm.out); clear Hm; have Hm := Hm'; clear Hm'
                have HAx' := Lib.hid (HAx.out.below hb); clear HAx; have HAx := HAx'; clear HAx'
                have HRn' := Lib.hid (HRn.out.below hb); clear HRn; have HRn := HRn'; clear HRn'
                have Hrd' := Lib.hid (Hrd.out.below hb); clear Hrd; have Hrd := Hrd'; clear Hrd'
                have HB' := below_call HB hb; clear HB hb; have HB := HB'; clear HB'; have hz62 := HB.size
                have lt_x_62 := blk_lt Hx.out
                have lt_n_62 := blk_lt Hn.out
                have lt_m_62 := blk_lt Hm.out
                go_upto_region 22 with fail
                refine wp_region_held_drew (S := fun w' => w'.cell? ⟨wi.heap.size, 0, none⟩ = some (.int .i64 d.id) ∧ w'.cell? ⟨wi.heap.size, 1, none⟩ = some (.bool d.ans) ∧ w'.cell? ⟨wi.heap.size, 2, none⟩ = some (.int .i64 d.code) ∧ w'.cell? ⟨wi.heap.size, 3, none⟩ = some (.string ⟨d.nm.toArray⟩) ∧ w'.cell? ⟨wi.heap.size, 4, none⟩ = some (.int .i64 d.kd) ∧ w'.cell? ⟨wi.heap.size, 5, none⟩ = some (.slice Ad d.recs.length cd) ∧ w'.cell? ⟨bn, 0, none⟩ = some (.int .i64 ne.id) ∧ w'.cell? ⟨bn, 1, none⟩ = some (.bool ne.ans) ∧ w'.cell? ⟨bn, 2, none⟩ = some (.int .i64 ne.code) ∧ w'.cell? ⟨bn, 3, none⟩ = some (.string ⟨ne.nm.toArray⟩) ∧ w'.cell? ⟨bn, 4, none⟩ = some (.int .i64 ne.kd) ∧ w'.cell? ⟨bn, 5, none⟩ = some (.slice A3 ne.recs.length c3) ∧ w'.cell? ⟨w.heap.size, 0, none⟩ = some (.int .i64 x.id) ∧ w'.cell? ⟨w.heap.size, 1, none⟩ = some (.bool x.ans) ∧ w'.cell? ⟨w.heap.size, 2, none⟩ = some (.int .i64 x.code) ∧ w'.cell? ⟨w.heap.size, 3, none⟩ = some (.int .i64 x.nm) ∧ w'.cell? ⟨w.heap.size, 4, none⟩ = some (.bool x.alias) ∧ w'.cell? ⟨w.heap.size, 5, none⟩ = some (.slice Ax nx cx)) (by kernel_rfl) (⟨(cell_of_block (k := 0) Hm.out rfl).1, (cell_of_block (k := 1) Hm.out rfl).1, (cell_of_block (k := 2) Hm.out rfl).1, (cell_of_block (k := 3) Hm.out rfl).1, (cell_of_block (k := 4) Hm.out rfl).1, (cell_of_block (k := 5) Hm.out rfl).1, (cell_of_block (k := 0) Hn.out rfl).1, (cell_of_block (k := 1) Hn.out rfl).1, (cell_of_block (k := 2) Hn.out rfl).1, (cell_of_block (k := 3) Hn.out rfl).1, (cell_of_block (k := 4) Hn.out rfl).1, (cell_of_block (k := 5) Hn.out rfl).1, (cell_of_block (k := 0) Hx.out rfl).1, (cell_of_block (k := 1) Hx.out rfl).1, (cell_of_block (k := 2) Hx.out rfl).1, (cell_of_block (k := 3) Hx.out rfl).1, (cell_of_block (k := 4) Hx.out rfl).1, (cell_of_block (k := 5) Hx.out rfl).1⟩) ?_
                intro hS
                have Hm' : Hid (w62.drew.heap[wi.heap.size]? = _) := Lib.hid Hm.out; clear Hm; have Hm := Hm'; clear Hm'
                have Hn' : Hid (w62.drew.heap[bn]? = _) := Lib.hid Hn.out; clear Hn; have Hn := Hn'; clear Hn'
                have Hx' : Hid (w62.drew.heap[w.heap.size]? = _) := Lib.hid Hx.out; clear Hx; have Hx := Hx'; clear Hx'
                have Hrd' : Hid (RRow w62.drew ld Ad cd d.recs) := Lib.hid Hrd.out; have HRn' : Hid (RRow w62.drew _ A3 c3 ne.recs) := Lib.hid HRn.out; have HAx' : Hid (RArg w62.drew Ax nx x.recs) := Lib.hid HAx.out; clear Hrd HRn HAx; have Hrd := Hrd'; have HRn := HRn'; have HAx := HAx'; clear Hrd' HRn' HAx'
                have HB' := Lib.hid HB.drew; clear HB; have HB := HB'; clear HB'
                generalize w62.drew = wd at *
                refine wpAnyH_take (i := 0) (oi := ⟨some 111, _, _, _, _, _⟩) (v := ?vt15x0) rfl (by kernel_rfl) (by kernel_rfl) (by kernel_rfl) (fun _ _ _ h => h) (Or.inl ⟨by rfl, ?hyt15x0⟩) (by exact (by exact ⟨(cell_of_block (k := 0) Hm.out rfl).1, (cell_of_block (k := 1) Hm.out rfl).1, (cell_of_block (k := 2) Hm.out rfl).1, (cell_of_block (k := 3) Hm.out rfl).1, (cell_of_block (k := 4) Hm.out rfl).1, (cell_of_block (k := 5) Hm.out rfl).1, (cell_of_block (k := 0) Hn.out rfl).1, (cell_of_block (k := 1) Hn.out rfl).1, (cell_of_block (k := 2) Hn.out rfl).1, (cell_of_block (k := 3) Hn.out rfl).1, (cell_of_block (k := 4) Hn.out rfl).1, (cell_of_block (k := 5) Hn.out rfl).1, (cell_of_block (k := 0) Hx.out rfl).1, (cell_of_block (k := 1) Hx.out rfl).1, (cell_of_block (k := 2) Hx.out rfl).1, (cell_of_block (k := 3) Hx.out rfl).1, (cell_of_block (k := 4) Hx.out rfl).1, (cell_of_block (k := 5) Hx.out rfl).1⟩)) ?ret15x0
                case hyt15x0 => (intro ww hSw; (try dsimp only at hSw); go_simp; first | done | with_reducible rfl)
                try simp only [Act.put, List.setIfInBounds_toArray, List.set_cons_zero, List.set_cons_succ]
                refine wpAnyH_take (i := 1) (oi := ⟨some 112, _, _, _, _, _⟩) (v := ?vt15x1) rfl (by kernel_rfl) (by kernel_rfl) (by kernel_rfl) (fun _ _ _ h => h) (Or.inl ⟨by rfl, ?hyt15x1⟩) (by exact (by exact ⟨(cell_of_block (k := 0) Hm.out rfl).1, (cell_of_block (k := 1) Hm.out rfl).1, (cell_of_block (k := 2) Hm.out rfl).1, (cell_of_block (k := 3) Hm.out rfl).1, (cell_of_block (k := 4) Hm.out rfl).1, (cell_of_block (k := 5) Hm.out rfl).1, (cell_of_block (k := 0) Hn.out rfl).1, (cell_of_block (k := 1) Hn.out rfl).1, (cell_of_block (k := 2) Hn.out rfl).1, (cell_of_block (k := 3) Hn.out rfl).1, (cell_of_block (k := 4) Hn.out rfl).1, (cell_of_block (k := 5) Hn.out rfl).1, (cell_of_block (k := 0) Hx.out rfl).1, (cell_of_block (k := 1) Hx.out rfl).1, (cell_of_block (k := 2) Hx.out rfl).1, (cell_of_block (k := 3) Hx.out rfl).1, (cell_of_block (k := 4) Hx.out rfl).1, (cell_of_block (k := 5) Hx.out rfl).1⟩)) ?ret15x1
                case hyt15x1 => (intro ww hSw; (try dsimp only at hSw); go_simp; first | done | with_reducible rfl)
                try simp only [Act.put, List.setIfInBounds_toArray, List.set_cons_zero, List.set_cons_succ]
                refine wpAnyH_take (i := 2) (oi := ⟨some 113, _, _, _, _, _⟩) (v := ?vt15x2) rfl (by kernel_rfl) (by kernel_rfl) (by kernel_rfl) (fun _ _ _ h => h) (Or.inl ⟨by rfl, ?hyt15x2⟩) (by exact (by exact ⟨(cell_of_block (k := 0) Hm.out rfl).1, (cell_of_block (k := 1) Hm.out rfl).1, (cell_of_block (k := 2) Hm.out rfl).1, (cell_of_block (k := 3) Hm.out rfl).1, (cell_of_block (k := 4) Hm.out rfl).1, (cell_of_block (k := 5) Hm.out rfl).1, (cell_of_block (k := 0) Hn.out rfl).1, (cell_of_block (k := 1) Hn.out rfl).1, (cell_of_block (k := 2) Hn.out rfl).1, (cell_of_block (k := 3) Hn.out rfl).1, (cell_of_block (k := 4) Hn.out rfl).1, (cell_of_block (k := 5) Hn.out rfl).1, (cell_of_block (k := 0) Hx.out rfl).1, (cell_of_block (k := 1) Hx.out rfl).1, (cell_of_block (k := 2) Hx.out rfl).1, (cell_of_block (k := 3) Hx.out rfl).1, (cell_of_block (k := 4) Hx.out rfl).1, (cell_of_block (k := 5) Hx.out rfl).1⟩)) ?ret15x2
                case hyt15x2 => (intro ww hSw; (try dsimp only at hSw); go_simp; first | done | with_reducible rfl)
                try simp only [Act.put, List.setIfInBounds_toArray, List.set_cons_zero, List.set_cons_succ]
                refine wpAnyH_take (i := 3) (oi := ⟨some 114, _, _, _, _, _⟩) (v := ?vt15x3) rfl (by kernel_rfl) (by kernel_rfl) (by kernel_rfl) (fun _ _ _ h => h) (Or.inl ⟨by rfl, ?hyt15x3⟩) (by exact (by exact ⟨(cell_of_block (k := 0) Hm.out rfl).1, (cell_of_block (k := 1) Hm.out rfl).1, (cell_of_block (k := 2) Hm.out rfl).1, (cell_of_block (k := 3) Hm.out rfl).1, (cell_of_block (k := 4) Hm.out rfl).1, (cell_of_block (k := 5) Hm.out rfl).1, (cell_of_block (k := 0) Hn.out rfl).1, (cell_of_block (k := 1) Hn.out rfl).1, (cell_of_block (k := 2) Hn.out rfl).1, (cell_of_block (k := 3) Hn.out rfl).1, (cell_of_block (k := 4) Hn.out rfl).1, (cell_of_block (k := 5) Hn.out rfl).1, (cell_of_block (k := 0) Hx.out rfl).1, (cell_of_block (k := 1) Hx.out rfl).1, (cell_of_block (k := 2) Hx.out rfl).1, (cell_of_block (k := 3) Hx.out rfl).1, (cell_of_block (k := 4) Hx.out rfl).1, (cell_of_block (k := 5) Hx.out rfl).1⟩)) ?ret15x3
                case hyt15x3 => (intro ww hSw; (try dsimp only at hSw); go_simp; first | done | with_reducible rfl)
                try simp only [Act.put, List.setIfInBounds_toArray, List.set_cons_zero, List.set_cons_succ]
                refine wpAnyH_take (i := 4) (oi := ⟨some 115, _, _, _, _, _⟩) (v := ?vt15x4) rfl (by kernel_rfl) (by kernel_rfl) (by kernel_rfl) (fun _ _ _ h => h) (Or.inl ⟨by rfl, ?hyt15x4⟩) (by exact (by exact ⟨(cell_of_block (k := 0) Hm.out rfl).1, (cell_of_block (k := 1) Hm.out rfl).1, (cell_of_block (k := 2) Hm.out rfl).1, (cell_of_block (k := 3) Hm.out rfl).1, (cell_of_block (k := 4) Hm.out rfl).1, (cell_of_block (k := 5) Hm.out rfl).1, (cell_of_block (k := 0) Hn.out rfl).1, (cell_of_block (k := 1) Hn.out rfl).1, (cell_of_block (k := 2) Hn.out rfl).1, (cell_of_block (k := 3) Hn.out rfl).1, (cell_of_block (k := 4) Hn.out rfl).1, (cell_of_block (k := 5) Hn.out rfl).1, (cell_of_block (k := 0) Hx.out rfl).1, (cell_of_block (k := 1) Hx.out rfl).1, (cell_of_block (k := 2) Hx.out rfl).1, (cell_of_block (k := 3) Hx.out rfl).1, (cell_of_block (k := 4) Hx.out rfl).1, (cell_of_block (k := 5) Hx.out rfl).1⟩)) ?ret15x4
                case hyt15x4 => (intro ww hSw; (try dsimp only at hSw); go_simp; first | done | with_reducible rfl)
                try simp only [Act.put, List.setIfInBounds_toArray, List.set_cons_zero, List.set_cons_succ]
                refine wpAnyH_take (i := 5) (oi := ⟨some 116, _, _, _, _, _⟩) (v := ?vt15x5) rfl (by kernel_rfl) (by kernel_rfl) (by kernel_rfl) (fun _ _ _ h => h) (Or.inl ⟨by rfl, ?hyt15x5⟩) (by exact (by exact ⟨(cell_of_block (k := 0) Hm.out rfl).1, (cell_of_block (k := 1) Hm.out rfl).1, (cell_of_block (k := 2) Hm.out rfl).1, (cell_of_block (k := 3) Hm.out rfl).1, (cell_of_block (k := 4) Hm.out rfl).1, (cell_of_block (k := 5) Hm.out rfl).1, (cell_of_block (k := 0) Hn.out rfl).1, (cell_of_block (k := 1) Hn.out rfl).1, (cell_of_block (k := 2) Hn.out rfl).1, (cell_of_block (k := 3) Hn.out rfl).1, (cell_of_block (k := 4) Hn.out rfl).1, (cell_of_block (k := 5) Hn.out rfl).1, (cell_of_block (k := 0) Hx.out rfl).1, (cell_of_block (k := 1) Hx.out rfl).1, (cell_of_block (k := 2) Hx.out rfl).1, (cell_of_block (k := 3) Hx.out rfl).1, (cell_of_block (k := 4) Hx.out rfl).1, (cell_of_block (k := 5) Hx.out rfl).1⟩)) ?ret15x5
                case hyt15x5 => (intro ww hSw; (try dsimp only at hSw); go_simp; first | done | with_reducible rfl)
                try simp only [Act.put, List.setIfInBounds_toArray, List.set_cons_zero, List.set_cons_succ]
                refine wpAnyH_take (i := 6) (oi := ⟨some 117, _, _, _, _, _⟩) (v := ?vt15x6) rfl (by kernel_rfl) (by kernel_rfl) (by kernel_rfl) (fun _ _ _ h => h) (Or.inl ⟨by rfl, ?hyt15x6⟩) (by exact (by exact ⟨(cell_of_block (k := 0) Hm.out rfl).1, (cell_of_block (k := 1) Hm.out rfl).1, (cell_of_block (k := 2) Hm.out rfl).1, (cell_of_block (k := 3) Hm.out rfl).1, (cell_of_block (k := 4) Hm.out rfl).1, (cell_of_block (k := 5) Hm.out rfl).1, (cell_of_block (k := 0) Hn.out rfl).1, (cell_of_block (k := 1) Hn.out rfl).1, (cell_of_block (k := 2) Hn.out rfl).1, (cell_of_block (k := 3) Hn.out rfl).1, (cell_of_block (k := 4) Hn.out rfl).1, (cell_of_block (k := 5) Hn.out rfl).1, (cell_of_block (k := 0) Hx.out rfl).1, (cell_of_block (k := 1) Hx.out rfl).1, (cell_of_block (k := 2) Hx.out rfl).1, (cell_of_block (k := 3) Hx.out rfl).1, (cell_of_block (k := 4) Hx.out rfl).1, (cell_of_block (k := 5) Hx.out rfl).1⟩)) ?ret15x6
                case hyt15x6 => (intro ww hSw; (try dsimp only at hSw); go_simp; first | done | with_reducible rfl)
                try simp only [Act.put, List.setIfInBounds_toArray, List.set_cons_zero, List.set_cons_succ]
                refine wpAnyH_take (i := 7) (oi := ⟨some 118, _, _, _, _, _⟩) (v := ?vt15x7) rfl (by kernel_rfl) (by kernel_rfl) (by kernel_rfl) (fun _ _ _ h => h) (Or.inl ⟨by rfl, ?hyt15x7⟩) (by exact (by exact ⟨(cell_of_block (k := 0) Hm.out rfl).1, (cell_of_block (k := 1) Hm.out rfl).1, (cell_of_block (k := 2) Hm.out rfl).1, (cell_of_block (k := 3) Hm.out rfl).1, (cell_of_block (k := 4) Hm.out rfl).1, (cell_of_block (k := 5) Hm.out rfl).1, (cell_of_block (k := 0) Hn.out rfl).1, (cell_of_block (k := 1) Hn.out rfl).1, (cell_of_block (k := 2) Hn.out rfl).1, (cell_of_block (k := 3) Hn.out rfl).1, (cell_of_block (k := 4) Hn.out rfl).1, (cell_of_block (k := 5) Hn.out rfl).1, (cell_of_block (k := 0) Hx.out rfl).1, (cell_of_block (k := 1) Hx.out rfl).1, (cell_of_block (k := 2) Hx.out rfl).1, (cell_of_block (k := 3) Hx.out rfl).1, (cell_of_block (k := 4) Hx.out rfl).1, (cell_of_block (k := 5) Hx.out rfl).1⟩)) ?ret15x7
                case hyt15x7 => (intro ww hSw; (try dsimp only at hSw); go_simp; first | done | with_reducible rfl)
                try simp only [Act.put, List.setIfInBounds_toArray, List.set_cons_zero, List.set_cons_succ]
                refine wpAnyH_take (i := 8) (oi := ⟨some 119, _, _, _, _, _⟩) (v := ?vt15x8) rfl (by kernel_rfl) (by kernel_rfl) (by kernel_rfl) (fun _ _ _ h => h) (Or.inl ⟨by rfl, ?hyt15x8⟩) (by exact (by exact ⟨(cell_of_block (k := 0) Hm.out rfl).1, (cell_of_block (k := 1) Hm.out rfl).1, (cell_of_block (k := 2) Hm.out rfl).1, (cell_of_block (k := 3) Hm.out rfl).1, (cell_of_block (k := 4) Hm.out rfl).1, (cell_of_block (k := 5) Hm.out rfl).1, (cell_of_block (k := 0) Hn.out rfl).1, (cell_of_block (k := 1) Hn.out rfl).1, (cell_of_block (k := 2) Hn.out rfl).1, (cell_of_block (k := 3) Hn.out rfl).1, (cell_of_block (k := 4) Hn.out rfl).1, (cell_of_block (k := 5) Hn.out rfl).1, (cell_of_block (k := 0) Hx.out rfl).1, (cell_of_block (k := 1) Hx.out rfl).1, (cell_of_block (k := 2) Hx.out rfl).1, (cell_of_block (k := 3) Hx.out rfl).1, (cell_of_block (k := 4) Hx.out rfl).1, (cell_of_block (k := 5) Hx.out rfl).1⟩)) ?ret15x8
                case hyt15x8 => (intro ww hSw; (try dsimp only at hSw); go_simp; first | done | with_reducible rfl)
                try simp only [Act.put, List.setIfInBounds_toArray, List.set_cons_zero, List.set_cons_succ]
                refine wpAnyH_take (i := 9) (oi := ⟨some 120, _, _, _, _, _⟩) (v := ?vt15x9) rfl (by kernel_rfl) (by kernel_rfl) (by kernel_rfl) (fun _ _ _ h => h) (Or.inl ⟨by rfl, ?hyt15x9⟩) (by exact (by exact ⟨(cell_of_block (k := 0) Hm.out rfl).1, (cell_of_block (k := 1) Hm.out rfl).1, (cell_of_block (k := 2) Hm.out rfl).1, (cell_of_block (k := 3) Hm.out rfl).1, (cell_of_block (k := 4) Hm.out rfl).1, (cell_of_block (k := 5) Hm.out rfl).1, (cell_of_block (k := 0) Hn.out rfl).1, (cell_of_block (k := 1) Hn.out rfl).1, (cell_of_block (k := 2) Hn.out rfl).1, (cell_of_block (k := 3) Hn.out rfl).1, (cell_of_block (k := 4) Hn.out rfl).1, (cell_of_block (k := 5) Hn.out rfl).1, (cell_of_block (k := 0) Hx.out rfl).1, (cell_of_block (k := 1) Hx.out rfl).1, (cell_of_block (k := 2) Hx.out rfl).1, (cell_of_block (k := 3) Hx.out rfl).1, (cell_of_block (k := 4) Hx.out rfl).1, (cell_of_block (k := 5) Hx.out rfl).1⟩)) ?ret15x9
                case hyt15x9 => (intro ww hSw; (try dsimp only at hSw); go_simp; first | done | with_reducible rfl)
                try simp only [Act.put, List.setIfInBounds_toArray, List.set_cons_zero, List.set_cons_succ]
                refine wpAnyH_take (i := 11) (oi := ⟨some 122, _, _, _, _, _⟩) (v := ?vt15x11) rfl (by kernel_rfl) (by kernel_rfl) (by kernel_rfl) (fun _ _ _ h => h) (Or.inl ⟨by rfl, ?hyt15x11⟩) (by exact (by exact ⟨(cell_of_block (k := 0) Hm.out rfl).1, (cell_of_block (k := 1) Hm.out rfl).1, (cell_of_block (k := 2) Hm.out rfl).1, (cell_of_block (k := 3) Hm.out rfl).1, (cell_of_block (k := 4) Hm.out rfl).1, (cell_of_block (k := 5) Hm.out rfl).1, (cell_of_block (k := 0) Hn.out rfl).1, (cell_of_block (k := 1) Hn.out rfl).1, (cell_of_block (k := 2) Hn.out rfl).1, (cell_of_block (k := 3) Hn.out rfl).1, (cell_of_block (k := 4) Hn.out rfl).1, (cell_of_block (k := 5) Hn.out rfl).1, (cell_of_block (k := 0) Hx.out rfl).1, (cell_of_block (k := 1) Hx.out rfl).1, (cell_of_block (k := 2) Hx.out rfl).1, (cell_of_block (k := 3) Hx.out rfl).1, (cell_of_block (k := 4) Hx.out rfl).1, (cell_of_block (k := 5) Hx.out rfl).1⟩)) ?ret15x11
                case hyt15x11 => (intro ww hSw; (try dsimp only at hSw); go_simp; first | done | with_reducible rfl)
                try simp only [Act.put, List.setIfInBounds_toArray, List.set_cons_zero, List.set_cons_succ]
                refine wpAnyH_ready (rs := [10]) (by kernel_rfl) (by simp) ?_
                refine AllReadyH.cons (o := ⟨some 121, _, _, _, _, _⟩) rfl (fun K16 hK16 => ?_) AllReadyH.nil
                go_simp
                refine (HV.out _ _ _ _ Hrd.out).mono ?_
                rintro e z1 ⟨rfl, hb9⟩
                dsimp only
                have Hm' := Lib.hid (bblock hb9 Hm.out); clear Hm; have Hm := Hm'; clear Hm'
                have Hn' := Lib.hid (bblock hb9 Hn.out); clear Hn; have Hn := Hn'; clear Hn'
                have Hx' := Lib.hid (bblock hb9 Hx.out); clear Hx; have Hx := Hx'; clear Hx'
                have Hrd' := Lib.hid (RRow.below Hrd.out hb9); have HRn' := Lib.hid (RRow.below HRn.out hb9); have HAx' := Lib.hid (HAx.out.below hb9); have HB' := Lib.hid (below_call HB.out hb9); clear Hrd HRn HAx HB hb9; have Hrd := Hrd'; have HRn := HRn'; have HAx := HAx'; have HB := HB'; clear Hrd' HRn' HAx' HB'
                refine hK16.out _ _ (⟨(cell_of_block (k := 0) Hm.out rfl).1, (cell_of_block (k := 1) Hm.out rfl).1, (cell_of_block (k := 2) Hm.out rfl).1, (cell_of_block (k := 3) Hm.out rfl).1, (cell_of_block (k := 4) Hm.out rfl).1, (cell_of_block (k := 5) Hm.out rfl).1, (cell_of_block (k := 0) Hn.out rfl).1, (cell_of_block (k := 1) Hn.out rfl).1, (cell_of_block (k := 2) Hn.out rfl).1, (cell_of_block (k := 3) Hn.out rfl).1, (cell_of_block (k := 4) Hn.out rfl).1, (cell_of_block (k := 5) Hn.out rfl).1, (cell_of_block (k := 0) Hx.out rfl).1, (cell_of_block (k := 1) Hx.out rfl).1, (cell_of_block (k := 2) Hx.out rfl).1, (cell_of_block (k := 3) Hx.out rfl).1, (cell_of_block (k := 4) Hx.out rfl).1, (cell_of_block (k := 5) Hx.out rfl).1⟩) (fun h16 => ?_)
                try simp only [Act.put, List.setIfInBounds_toArray, List.set_cons_zero, List.set_cons_succ]
                refine wpAnyH_ready (rs := [12]) (by kernel_rfl) (by simp) ?_
                refine AllReadyH.cons (o := ⟨some 123, _, _, _, _, _⟩) rfl (fun K17 hK17 => ?_) AllReadyH.nil
                go_simp
                refine (HRV.out _ _ _ _ Hrd.out).mono ?_
                rintro e z2 ⟨rfl, hb9⟩
                dsimp only
                have Hm' := Lib.hid (bblock hb9 Hm.out); clear Hm; have Hm := Hm'; clear Hm'
                have Hn' := Lib.hid (bblock hb9 Hn.out); clear Hn; have Hn := Hn'; clear Hn'
                have Hx' := Lib.hid (bblock hb9 Hx.out); clear Hx; have Hx := Hx'; clear Hx'
                have Hrd' := Lib.hid (RRow.below Hrd.out hb9); have HRn' := Lib.hid (RRow.below HRn.out hb9); have HAx' := Lib.hid (HAx.out.below hb9); have HB' := Lib.hid (below_call HB.out hb9); clear Hrd HRn HAx HB hb9; have Hrd := Hrd'; have HRn := HRn'; have HAx := HAx'; have HB := HB'; clear Hrd' HRn' HAx' HB'
                refine hK17.out _ _ (⟨(cell_of_block (k := 0) Hm.out rfl).1, (cell_of_block (k := 1) Hm.out rfl).1, (cell_of_block (k := 2) Hm.out rfl).1, (cell_of_block (k := 3) Hm.out rfl).1, (cell_of_block (k := 4) Hm.out rfl).1, (cell_of_block (k := 5) Hm.out rfl).1, (cell_of_block (k := 0) Hn.out rfl).1, (cell_of_block (k := 1) Hn.out rfl).1, (cell_of_block (k := 2) Hn.out rfl).1, (cell_of_block (k := 3) Hn.out rfl).1, (cell_of_block (k := 4) Hn.out rfl).1, (cell_of_block (k := 5) Hn.out rfl).1, (cell_of_block (k := 0) Hx.out rfl).1, (cell_of_block (k := 1) Hx.out rfl).1, (cell_of_block (k := 2) Hx.out rfl).1, (cell_of_block (k := 3) Hx.out rfl).1, (cell_of_block (k := 4) Hx.out rfl).1, (cell_of_block (k := 5) Hx.out rfl).1⟩) (fun h17 => ?_)
                try simp only [Act.put, List.setIfInBounds_toArray, List.set_cons_zero, List.set_cons_succ]
                refine wpAnyH_take (i := 13) (oi := ⟨some 124, _, _, _, _, _⟩) (v := ?vt18x13) rfl (by kernel_rfl) (by kernel_rfl) (by kernel_rfl) (fun _ _ _ h => h) (Or.inl ⟨by rfl, ?hyt18x13⟩) (by exact (by exact ⟨(cell_of_block (k := 0) Hm.out rfl).1, (cell_of_block (k := 1) Hm.out rfl).1, (cell_of_block (k := 2) Hm.out rfl).1, (cell_of_block (k := 3) Hm.out rfl).1, (cell_of_block (k := 4) Hm.out rfl).1, (cell_of_block (k := 5) Hm.out rfl).1, (cell_of_block (k := 0) Hn.out rfl).1, (cell_of_block (k := 1) Hn.out rfl).1, (cell_of_block (k := 2) Hn.out rfl).1, (cell_of_block (k := 3) Hn.out rfl).1, (cell_of_block (k := 4) Hn.out rfl).1, (cell_of_block (k := 5) Hn.out rfl).1, (cell_of_block (k := 0) Hx.out rfl).1, (cell_of_block (k := 1) Hx.out rfl).1, (cell_of_block (k := 2) Hx.out rfl).1, (cell_of_block (k := 3) Hx.out rfl).1, (cell_of_block (k := 4) Hx.out rfl).1, (cell_of_block (k := 5) Hx.out rfl).1⟩)) ?ret18x13
                case hyt18x13 => (intro ww hSw; (try dsimp only at hSw); go_simp; first | done | with_reducible rfl)
                try simp only [Act.put, List.setIfInBounds_toArray, List.set_cons_zero, List.set_cons_succ]
                refine wpAnyH_take (i := 14) (oi := ⟨some 125, _, _, _, _, _⟩) (v := ?vt18x14) rfl (by kernel_rfl) (by kernel_rfl) (by kernel_rfl) (fun _ _ _ h => h) (Or.inl ⟨by rfl, ?hyt18x14⟩) (by exact (by exact ⟨(cell_of_block (k := 0) Hm.out rfl).1, (cell_of_block (k := 1) Hm.out rfl).1, (cell_of_block (k := 2) Hm.out rfl).1, (cell_of_block (k := 3) Hm.out rfl).1, (cell_of_block (k := 4) Hm.out rfl).1, (cell_of_block (k := 5) Hm.out rfl).1, (cell_of_block (k := 0) Hn.out rfl).1, (cell_of_block (k := 1) Hn.out rfl).1, (cell_of_block (k := 2) Hn.out rfl).1, (cell_of_block (k := 3) Hn.out rfl).1, (cell_of_block (k := 4) Hn.out rfl).1, (cell_of_block (k := 5) Hn.out rfl).1, (cell_of_block (k := 0) Hx.out rfl).1, (cell_of_block (k := 1) Hx.out rfl).1, (cell_of_block (k := 2) Hx.out rfl).1, (cell_of_block (k := 3) Hx.out rfl).1, (cell_of_block (k := 4) Hx.out rfl).1, (cell_of_block (k := 5) Hx.out rfl).1⟩)) ?ret18x14
                case hyt18x14 => (intro ww hSw; (try dsimp only at hSw); go_simp; first | done | with_reducible rfl)
                try simp only [Act.put, List.setIfInBounds_toArray, List.set_cons_zero, List.set_cons_succ]
                refine wpAnyH_take (i := 15) (oi := ⟨some 126, _, _, _, _, _⟩) (v := ?vt18x15) rfl (by kernel_rfl) (by kernel_rfl) (by kernel_rfl) (fun _ _ _ h => h) (Or.inl ⟨by rfl, ?hyt18x15⟩) (by exact (by exact ⟨(cell_of_block (k := 0) Hm.out rfl).1, (cell_of_block (k := 1) Hm.out rfl).1, (cell_of_block (k := 2) Hm.out rfl).1, (cell_of_block (k := 3) Hm.out rfl).1, (cell_of_block (k := 4) Hm.out rfl).1, (cell_of_block (k := 5) Hm.out rfl).1, (cell_of_block (k := 0) Hn.out rfl).1, (cell_of_block (k := 1) Hn.out rfl).1, (cell_of_block (k := 2) Hn.out rfl).1, (cell_of_block (k := 3) Hn.out rfl).1, (cell_of_block (k := 4) Hn.out rfl).1, (cell_of_block (k := 5) Hn.out rfl).1, (cell_of_block (k := 0) Hx.out rfl).1, (cell_of_block (k := 1) Hx.out rfl).1, (cell_of_block (k := 2) Hx.out rfl).1, (cell_of_block (k := 3) Hx.out rfl).1, (cell_of_block (k := 4) Hx.out rfl).1, (cell_of_block (k := 5) Hx.out rfl).1⟩)) ?ret18x15
                case hyt18x15 => (intro ww hSw; (try dsimp only at hSw); go_simp; first | done | with_reducible rfl)
                try simp only [Act.put, List.setIfInBounds_toArray, List.set_cons_zero, List.set_cons_succ]
                refine wpAnyH_take (i := 16) (oi := ⟨some 127, _, _, _, _, _⟩) (v := ?vt18x16) rfl (by kernel_rfl) (by kernel_rfl) (by kernel_rfl) (fun _ _ _ h => h) (Or.inl ⟨by rfl, ?hyt18x16⟩) (by exact (by exact ⟨(cell_of_block (k := 0) Hm.out rfl).1, (cell_of_block (k := 1) Hm.out rfl).1, (cell_of_block (k := 2) Hm.out rfl).1, (cell_of_block (k := 3) Hm.out rfl).1, (cell_of_block (k := 4) Hm.out rfl).1, (cell_of_block (k := 5) Hm.out rfl).1, (cell_of_block (k := 0) Hn.out rfl).1, (cell_of_block (k := 1) Hn.out rfl).1, (cell_of_block (k := 2) Hn.out rfl).1, (cell_of_block (k := 3) Hn.out rfl).1, (cell_of_block (k := 4) Hn.out rfl).1, (cell_of_block (k := 5) Hn.out rfl).1, (cell_of_block (k := 0) Hx.out rfl).1, (cell_of_block (k := 1) Hx.out rfl).1, (cell_of_block (k := 2) Hx.out rfl).1, (cell_of_block (k := 3) Hx.out rfl).1, (cell_of_block (k := 4) Hx.out rfl).1, (cell_of_block (k := 5) Hx.out rfl).1⟩)) ?ret18x16
                case hyt18x16 => (intro ww hSw; (try dsimp only at hSw); go_simp; first | done | with_reducible rfl)
                try simp only [Act.put, List.setIfInBounds_toArray, List.set_cons_zero, List.set_cons_succ]
                refine wpAnyH_take (i := 17) (oi := ⟨some 128, _, _, _, _, _⟩) (v := ?vt18x17) rfl (by kernel_rfl) (by kernel_rfl) (by kernel_rfl) (fun _ _ _ h => h) (Or.inl ⟨by rfl, ?hyt18x17⟩) (by exact (by exact ⟨(cell_of_block (k := 0) Hm.out rfl).1, (cell_of_block (k := 1) Hm.out rfl).1, (cell_of_block (k := 2) Hm.out rfl).1, (cell_of_block (k := 3) Hm.out rfl).1, (cell_of_block (k := 4) Hm.out rfl).1, (cell_of_block (k := 5) Hm.out rfl).1, (cell_of_block (k := 0) Hn.out rfl).1, (cell_of_block (k := 1) Hn.out rfl).1, (cell_of_block (k := 2) Hn.out rfl).1, (cell_of_block (k := 3) Hn.out rfl).1, (cell_of_block (k := 4) Hn.out rfl).1, (cell_of_block (k := 5) Hn.out rfl).1, (cell_of_block (k := 0) Hx.out rfl).1, (cell_of_block (k := 1) Hx.out rfl).1, (cell_of_block (k := 2) Hx.out rfl).1, (cell_of_block (k := 3) Hx.out rfl).1, (cell_of_block (k := 4) Hx.out rfl).1, (cell_of_block (k := 5) Hx.out rfl).1⟩)) ?ret18x17
                case hyt18x17 => (intro ww hSw; (try dsimp only at hSw); go_simp; first | done | with_reducible rfl)
                try simp only [Act.put, List.setIfInBounds_toArray, List.set_cons_zero, List.set_cons_succ]
                refine wpAnyH_take (i := 19) (oi := ⟨some 130, _, _, _, _, _⟩) (v := ?vt18x19) rfl (by kernel_rfl) (by kernel_rfl) (by kernel_rfl) (fun _ _ _ h => h) (Or.inl ⟨by rfl, ?hyt18x19⟩) (by exact (by exact ⟨(cell_of_block (k := 0) Hm.out rfl).1, (cell_of_block (k := 1) Hm.out rfl).1, (cell_of_block (k := 2) Hm.out rfl).1, (cell_of_block (k := 3) Hm.out rfl).1, (cell_of_block (k := 4) Hm.out rfl).1, (cell_of_block (k := 5) Hm.out rfl).1, (cell_of_block (k := 0) Hn.out rfl).1, (cell_of_block (k := 1) Hn.out rfl).1, (cell_of_block (k := 2) Hn.out rfl).1, (cell_of_block (k := 3) Hn.out rfl).1, (cell_of_block (k := 4) Hn.out rfl).1, (cell_of_block (k := 5) Hn.out rfl).1, (cell_of_block (k := 0) Hx.out rfl).1, (cell_of_block (k := 1) Hx.out rfl).1, (cell_of_block (k := 2) Hx.out rfl).1, (cell_of_block (k := 3) Hx.out rfl).1, (cell_of_block (k := 4) Hx.out rfl).1, (cell_of_block (k := 5) Hx.out rfl).1⟩)) ?ret18x19
                case hyt18x19 => (intro ww hSw; (try dsimp only at hSw); go_simp; first | done | with_reducible rfl)
                try simp only [Act.put, List.setIfInBounds_toArray, List.set_cons_zero, List.set_cons_succ]
                refine wpAnyH_take (i := 20) (oi := ⟨some 131, _, _, _, _, _⟩) (v := ?vt18x20) rfl (by kernel_rfl) (by kernel_rfl) (by kernel_rfl) (fun _ _ _ h => h) (Or.inl ⟨by rfl, ?hyt18x20⟩) (by exact (by exact ⟨(cell_of_block (k := 0) Hm.out rfl).1, (cell_of_block (k := 1) Hm.out rfl).1, (cell_of_block (k := 2) Hm.out rfl).1, (cell_of_block (k := 3) Hm.out rfl).1, (cell_of_block (k := 4) Hm.out rfl).1, (cell_of_block (k := 5) Hm.out rfl).1, (cell_of_block (k := 0) Hn.out rfl).1, (cell_of_block (k := 1) Hn.out rfl).1, (cell_of_block (k := 2) Hn.out rfl).1, (cell_of_block (k := 3) Hn.out rfl).1, (cell_of_block (k := 4) Hn.out rfl).1, (cell_of_block (k := 5) Hn.out rfl).1, (cell_of_block (k := 0) Hx.out rfl).1, (cell_of_block (k := 1) Hx.out rfl).1, (cell_of_block (k := 2) Hx.out rfl).1, (cell_of_block (k := 3) Hx.out rfl).1, (cell_of_block (k := 4) Hx.out rfl).1, (cell_of_block (k := 5) Hx.out rfl).1⟩)) ?ret18x20
                case hyt18x20 => (intro ww hSw; (try dsimp only at hSw); go_simp; first | done | with_reducible rfl)
                try simp only [Act.put, List.setIfInBounds_toArray, List.set_cons_zero, List.set_cons_succ]
                refine wpAnyH_ready (rs := [18]) (by kernel_rfl) (by simp) ?_
                refine AllReadyH.cons (o := ⟨some 129, _, _, _, _, _⟩) rfl (fun K19 hK19 => ?_) AllReadyH.nil
                go_simp
                refine (HSa.out _ _ _ _ _ _ _ Hrd.out HRn.out).mono ?_
                rintro e z3 ⟨rfl, hb9⟩
                dsimp only
                have Hm' := Lib.hid (bblock hb9 Hm.out); clear Hm; have Hm := Hm'; clear Hm'
                have Hn' := Lib.hid (bblock hb9 Hn.out); clear Hn; have Hn := Hn'; clear Hn'
                have Hx' := Lib.hid (bblock hb9 Hx.out); clear Hx; have Hx := Hx'; clear Hx'
                have Hrd' := Lib.hid (RRow.below Hrd.out hb9); have HRn' := Lib.hid (RRow.below HRn.out hb9); have HAx' := Lib.hid (HAx.out.below hb9); have HB' := Lib.hid (below_call HB.out hb9); clear Hrd HRn HAx HB hb9; have Hrd := Hrd'; have HRn := HRn'; have HAx := HAx'; have HB := HB'; clear Hrd' HRn' HAx' HB'
                refine hK19.out _ _ (⟨(cell_of_block (k := 0) Hm.out rfl).1, (cell_of_block (k := 1) Hm.out rfl).1, (cell_of_block (k := 2) Hm.out rfl).1, (cell_of_block (k := 3) Hm.out rfl).1, (cell_of_block (k := 4) Hm.out rfl).1, (cell_of_block (k := 5) Hm.out rfl).1, (cell_of_block (k := 0) Hn.out rfl).1, (cell_of_block (k := 1) Hn.out rfl).1, (cell_of_block (k := 2) Hn.out rfl).1, (cell_of_block (k := 3) Hn.out rfl).1, (cell_of_block (k := 4) Hn.out rfl).1, (cell_of_block (k := 5) Hn.out rfl).1, (cell_of_block (k := 0) Hx.out rfl).1, (cell_of_block (k := 1) Hx.out rfl).1, (cell_of_block (k := 2) Hx.out rfl).1, (cell_of_block (k := 3) Hx.out rfl).1, (cell_of_block (k := 4) Hx.out rfl).1, (cell_of_block (k := 5) Hx.out rfl).1⟩) (fun h19 => ?_)
                try simp only [Act.put, List.setIfInBounds_toArray, List.set_cons_zero, List.set_cons_succ]
                refine wpAnyH_ready (rs := [21]) (by kernel_rfl) (by simp) ?_
                refine AllReadyH.cons (o := ⟨some 132, _, _, _, _, _⟩) rfl (fun K20 hK20 => ?_) AllReadyH.nil
                go_simp
                refine (HSb.out _ _ _ _ _ _ _ Hrd.out HRn.out).mono ?_
                rintro e z4 ⟨rfl, hb9⟩
                dsimp only
                have Hm' := Lib.hid (bblock hb9 Hm.out); clear Hm; have Hm := Hm'; clear Hm'
                have Hn' := Lib.hid (bblock hb9 Hn.out); clear Hn; have Hn := Hn'; clear Hn'
                have Hx' := Lib.hid (bblock hb9 Hx.out); clear Hx; have Hx := Hx'; clear Hx'
                have Hrd' := Lib.hid (RRow.below Hrd.out hb9); have HRn' := Lib.hid (RRow.below HRn.out hb9); have HAx' := Lib.hid (HAx.out.below hb9); have HB' := Lib.hid (below_call HB.out hb9); clear Hrd HRn HAx HB hb9; have Hrd := Hrd'; have HRn := HRn'; have HAx := HAx'; have HB := HB'; clear Hrd' HRn' HAx' HB'
                refine hK20.out _ _ (⟨(cell_of_block (k := 0) Hm.out rfl).1, (cell_of_block (k := 1) Hm.out rfl).1, (cell_of_block (k := 2) Hm.out rfl).1, (cell_of_block (k := 3) Hm.out rfl).1, (cell_of_block (k := 4) Hm.out rfl).1, (cell_of_block (k := 5) Hm.out rfl).1, (cell_of_block (k := 0) Hn.out rfl).1, (cell_of_block (k := 1) Hn.out rfl).1, (cell_of_block (k := 2) Hn.out rfl).1, (cell_of_block (k := 3) Hn.out rfl).1, (cell_of_block (k := 4) Hn.out rfl).1, (cell_of_block (k := 5) Hn.out rfl).1, (cell_of_block (k := 0) Hx.out rfl).1, (cell_of_block (k := 1) Hx.out rfl).1, (cell_of_block (k := 2) Hx.out rfl).1, (cell_of_block (k := 3) Hx.out rfl).1, (cell_of_block (k := 4) Hx.out rfl).1, (cell_of_block (k := 5) Hx.out rfl).1⟩) (fun h20 => ?_)
                try simp only [Act.put, List.setIfInBounds_toArray, List.set_cons_zero, List.set_cons_succ]
                refine wpAnyH_take (i := 22) (oi := ⟨some 133, _, _, _, _, _⟩) (v := ?vt21x22) rfl (by kernel_rfl) (by kernel_rfl) (by kernel_rfl) (fun _ _ _ h => h) (Or.inl ⟨by rfl, ?hyt21x22⟩) (by exact (by exact ⟨(cell_of_block (k := 0) Hm.out rfl).1, (cell_of_block (k := 1) Hm.out rfl).1, (cell_of_block (k := 2) Hm.out rfl).1, (cell_of_block (k := 3) Hm.out rfl).1, (cell_of_block (k := 4) Hm.out rfl).1, (cell_of_block (k := 5) Hm.out rfl).1, (cell_of_block (k := 0) Hn.out rfl).1, (cell_of_block (k := 1) Hn.out rfl).1, (cell_of_block (k := 2) Hn.out rfl).1, (cell_of_block (k := 3) Hn.out rfl).1, (cell_of_block (k := 4) Hn.out rfl).1, (cell_of_block (k := 5) Hn.out rfl).1, (cell_of_block (k := 0) Hx.out rfl).1, (cell_of_block (k := 1) Hx.out rfl).1, (cell_of_block (k := 2) Hx.out rfl).1, (cell_of_block (k := 3) Hx.out rfl).1, (cell_of_block (k := 4) Hx.out rfl).1, (cell_of_block (k := 5) Hx.out rfl).1⟩)) ?ret21x22
                case hyt21x22 => (intro ww hSw; (try dsimp only at hSw); go_simp; first | done | with_reducible rfl)
                try simp only [Act.put, List.setIfInBounds_toArray, List.set_cons_zero, List.set_cons_succ]
                refine wpAnyH_take (i := 23) (oi := ⟨some 134, _, _, _, _, _⟩) (v := ?vt21x23) rfl (by kernel_rfl) (by kernel_rfl) (by kernel_rfl) (fun _ _ _ h => h) (Or.inl ⟨by rfl, ?hyt21x23⟩) (by exact (by exact ⟨(cell_of_block (k := 0) Hm.out rfl).1, (cell_of_block (k := 1) Hm.out rfl).1, (cell_of_block (k := 2) Hm.out rfl).1, (cell_of_block (k := 3) Hm.out rfl).1, (cell_of_block (k := 4) Hm.out rfl).1, (cell_of_block (k := 5) Hm.out rfl).1, (cell_of_block (k := 0) Hn.out rfl).1, (cell_of_block (k := 1) Hn.out rfl).1, (cell_of_block (k := 2) Hn.out rfl).1, (cell_of_block (k := 3) Hn.out rfl).1, (cell_of_block (k := 4) Hn.out rfl).1, (cell_of_block (k := 5) Hn.out rfl).1, (cell_of_block (k := 0) Hx.out rfl).1, (cell_of_block (k := 1) Hx.out rfl).1, (cell_of_block (k := 2) Hx.out rfl).1, (cell_of_block (k := 3) Hx.out rfl).1, (cell_of_block (k := 4) Hx.out rfl).1, (cell_of_block (k := 5) Hx.out rfl).1⟩)) ?ret21x23
                case hyt21x23 => (intro ww hSw; (try dsimp only at hSw); go_simp; first | done | with_reducible rfl)
                try simp only [Act.put, List.setIfInBounds_toArray, List.set_cons_zero, List.set_cons_succ]
                refine wpAnyH_take (i := 24) (oi := ⟨some 135, _, _, _, _, _⟩) (v := ?vt21x24) rfl (by kernel_rfl) (by kernel_rfl) (by kernel_rfl) (fun _ _ _ h => h) (Or.inl ⟨by rfl, ?hyt21x24⟩) (by exact (by exact ⟨(cell_of_block (k := 0) Hm.out rfl).1, (cell_of_block (k := 1) Hm.out rfl).1, (cell_of_block (k := 2) Hm.out rfl).1, (cell_of_block (k := 3) Hm.out rfl).1, (cell_of_block (k := 4) Hm.out rfl).1, (cell_of_block (k := 5) Hm.out rfl).1, (cell_of_block (k := 0) Hn.out rfl).1, (cell_of_block (k := 1) Hn.out rfl).1, (cell_of_block (k := 2) Hn.out rfl).1, (cell_of_block (k := 3) Hn.out rfl).1, (cell_of_block (k := 4) Hn.out rfl).1, (cell_of_block (k := 5) Hn.out rfl).1, (cell_of_block (k := 0) Hx.out rfl).1, (cell_of_block (k := 1) Hx.out rfl).1, (cell_of_block (k := 2) Hx.out rfl).1, (cell_of_block (k := 3) Hx.out rfl).1, (cell_of_block (k := 4) Hx.out rfl).1, (cell_of_block (k := 5) Hx.out rfl).1⟩)) ?ret21x24
                case hyt21x24 => (intro ww hSw; (try dsimp only at hSw); go_simp; first | done | with_reducible rfl)
                try simp only [Act.put, List.setIfInBounds_toArray, List.set_cons_zero, List.set_cons_succ]
                refine wpAnyH_take (i := 25) (oi := ⟨some 136, _, _, _, _, _⟩) (v := ?vt21x25) rfl (by kernel_rfl) (by kernel_rfl) (by kernel_rfl) (fun _ _ _ h => h) (Or.inl ⟨by rfl, ?hyt21x25⟩) (by exact (by exact ⟨(cell_of_block (k := 0) Hm.out rfl).1, (cell_of_block (k := 1) Hm.out rfl).1, (cell_of_block (k := 2) Hm.out rfl).1, (cell_of_block (k := 3) Hm.out rfl).1, (cell_of_block (k := 4) Hm.out rfl).1, (cell_of_block (k := 5) Hm.out rfl).1, (cell_of_block (k := 0) Hn.out rfl).1, (cell_of_block (k := 1) Hn.out rfl).1, (cell_of_block (k := 2) Hn.out rfl).1, (cell_of_block (k := 3) Hn.out rfl).1, (cell_of_block (k := 4) Hn.out rfl).1, (cell_of_block (k := 5) Hn.out rfl).1, (cell_of_block (k := 0) Hx.out rfl).1, (cell_of_block (k := 1) Hx.out rfl).1, (cell_of_block (k := 2) Hx.out rfl).1, (cell_of_block (k := 3) Hx.out rfl).1, (cell_of_block (k := 4) Hx.out rfl).1, (cell_of_block (k := 5) Hx.out rfl).1⟩)) ?ret21x25
                case hyt21x25 => (intro ww hSw; (try dsimp only at hSw); go_simp; first | done | with_reducible rfl)
                try simp only [Act.put, List.setIfInBounds_toArray, List.set_cons_zero, List.set_cons_succ]
                refine wpAnyH_take (i := 27) (oi := ⟨some 138, _, _, _, _, _⟩) (v := ?vt21x27) rfl (by kernel_rfl) (by kernel_rfl) (by kernel_rfl) (fun _ _ _ h => h) (Or.inl ⟨by rfl, ?hyt21x27⟩) (by exact (by exact ⟨(cell_of_block (k := 0) Hm.out rfl).1, (cell_of_block (k := 1) Hm.out rfl).1, (cell_of_block (k := 2) Hm.out rfl).1, (cell_of_block (k := 3) Hm.out rfl).1, (cell_of_block (k := 4) Hm.out rfl).1, (cell_of_block (k := 5) Hm.out rfl).1, (cell_of_block (k := 0) Hn.out rfl).1, (cell_of_block (k := 1) Hn.out rfl).1, (cell_of_block (k := 2) Hn.out rfl).1, (cell_of_block (k := 3) Hn.out rfl).1, (cell_of_block (k := 4) Hn.out rfl).1, (cell_of_block (k := 5) Hn.out rfl).1, (cell_of_block (k := 0) Hx.out rfl).1, (cell_of_block (k := 1) Hx.out rfl).1, (cell_of_block (k := 2) Hx.out rfl).1, (cell_of_block (k := 3) Hx.out rfl).1, (cell_of_block (k := 4) Hx.out rfl).1, (cell_of_block (k := 5) Hx.out rfl).1⟩)) ?ret21x27
                case hyt21x27 => (intro ww hSw; (try dsimp only at hSw); go_simp; first | done | with_reducible rfl)
                try simp only [Act.put, List.setIfInBounds_toArray, List.set_cons_zero, List.set_cons_succ]
                refine wpAnyH_take (i := 29) (oi := ⟨some 140, _, _, _, _, _⟩) (v := ?vt21x29) rfl (by kernel_rfl) (by kernel_rfl) (by kernel_rfl) (fun _ _ _ h => h) (Or.inl ⟨by rfl, ?hyt21x29⟩) (by exact (by exact ⟨(cell_of_block (k := 0) Hm.out rfl).1, (cell_of_block (k := 1) Hm.out rfl).1, (cell_of_block (k := 2) Hm.out rfl).1, (cell_of_block (k := 3) Hm.out rfl).1, (cell_of_block (k := 4) Hm.out rfl).1, (cell_of_block (k := 5) Hm.out rfl).1, (cell_of_block (k := 0) Hn.out rfl).1, (cell_of_block (k := 1) Hn.out rfl).1, (cell_of_block (k := 2) Hn.out rfl).1, (cell_of_block (k := 3) Hn.out rfl).1, (cell_of_block (k := 4) Hn.out rfl).1, (cell_of_block (k := 5) Hn.out rfl).1, (cell_of_block (k := 0) Hx.out rfl).1, (cell_of_block (k := 1) Hx.out rfl).1, (cell_of_block (k := 2) Hx.out rfl).1, (cell_of_block (k := 3) Hx.out rfl).1, (cell_of_block (k := 4) Hx.out rfl).1, (cell_of_block (k := 5) Hx.out rfl).1⟩)) ?ret21x29
                case hyt21x29 => (intro ww hSw; (try dsimp only at hSw); go_simp; first | done | with_reducible rfl)
                try simp only [Act.put, List.setIfInBounds_toArray, List.set_cons_zero, List.set_cons_succ]
                refine wpAnyH_take (i := 31) (oi := ⟨some 142, _, _, _, _, _⟩) (v := ?vt21x31) rfl (by kernel_rfl) (by kernel_rfl) (by kernel_rfl) (fun _ _ _ h => h) (Or.inl ⟨by rfl, ?hyt21x31⟩) (by exact (by exact ⟨(cell_of_block (k := 0) Hm.out rfl).1, (cell_of_block (k := 1) Hm.out rfl).1, (cell_of_block (k := 2) Hm.out rfl).1, (cell_of_block (k := 3) Hm.out rfl).1, (cell_of_block (k := 4) Hm.out rfl).1, (cell_of_block (k := 5) Hm.out rfl).1, (cell_of_block (k := 0) Hn.out rfl).1, (cell_of_block (k := 1) Hn.out rfl).1, (cell_of_block (k := 2) Hn.out rfl).1, (cell_of_block (k := 3) Hn.out rfl).1, (cell_of_block (k := 4) Hn.out rfl).1, (cell_of_block (k := 5) Hn.out rfl).1, (cell_of_block (k := 0) Hx.out rfl).1, (cell_of_block (k := 1) Hx.out rfl).1, (cell_of_block (k := 2) Hx.out rfl).1, (cell_of_block (k := 3) Hx.out rfl).1, (cell_of_block (k := 4) Hx.out rfl).1, (cell_of_block (k := 5) Hx.out rfl).1⟩)) ?ret21x31
                case hyt21x31 => (intro ww hSw; (try dsimp only at hSw); go_simp; first | done | with_reducible rfl)
                try simp only [Act.put, List.setIfInBounds_toArray, List.set_cons_zero, List.set_cons_succ]
                refine wpAnyH_ready (rs := [26]) (by kernel_rfl) (by simp) ?_
                refine AllReadyH.cons (o := ⟨some 137, _, _, _, _, _⟩) rfl (fun K22 hK22 => ?_) AllReadyH.nil
                go_simp
                refine (HX.out _ HAx.out).mono ?_
                rintro e z5 ⟨A8, c8, rfl, hr8, hb9⟩
                dsimp only
                have Hr8 := Lib.hid hr8; clear hr8
                have Hm' := Lib.hid (bblock hb9 Hm.out); clear Hm; have Hm := Hm'; clear Hm'
                have Hn' := Lib.hid (bblock hb9 Hn.out); clear Hn; have Hn := Hn'; clear Hn'
                have Hx' := Lib.hid (bblock hb9 Hx.out); clear Hx; have Hx := Hx'; clear Hx'
                have Hrd' := Lib.hid (RRow.below Hrd.out hb9); have HRn' := Lib.hid (RRow.below HRn.out hb9); have HAx' := Lib.hid (HAx.out.below hb9); have HB' := Lib.hid (below_call HB.out hb9); clear Hrd HRn HAx HB hb9; have Hrd := Hrd'; have HRn := HRn'; have HAx := HAx'; have HB := HB'; clear Hrd' HRn' HAx' HB'
                refine hK22.out _ _ (⟨(cell_of_block (k := 0) Hm.out rfl).1, (cell_of_block (k := 1) Hm.out rfl).1, (cell_of_block (k := 2) Hm.out rfl).1, (cell_of_block (k := 3) Hm.out rfl).1, (cell_of_block (k := 4) Hm.out rfl).1, (cell_of_block (k := 5) Hm.out rfl).1, (cell_of_block (k := 0) Hn.out rfl).1, (cell_of_block (k := 1) Hn.out rfl).1, (cell_of_block (k := 2) Hn.out rfl).1, (cell_of_block (k := 3) Hn.out rfl).1, (cell_of_block (k := 4) Hn.out rfl).1, (cell_of_block (k := 5) Hn.out rfl).1, (cell_of_block (k := 0) Hx.out rfl).1, (cell_of_block (k := 1) Hx.out rfl).1, (cell_of_block (k := 2) Hx.out rfl).1, (cell_of_block (k := 3) Hx.out rfl).1, (cell_of_block (k := 4) Hx.out rfl).1, (cell_of_block (k := 5) Hx.out rfl).1⟩) (fun h22 => ?_)
                try simp only [Act.put, List.setIfInBounds_toArray, List.set_cons_zero, List.set_cons_succ]
                refine wpAnyH_ready (rs := [28]) (by kernel_rfl) (by simp) ?_
                refine AllReadyH.cons (o := ⟨some 139, _, _, _, _, _⟩) rfl (fun K23 hK23 => ?_) AllReadyH.nil
                go_simp
                refine (HSc.out _ _ _ _ _ _ _ Hr8.out Hrd.out).mono ?_
                rintro e z6 ⟨rfl, hb9⟩
                dsimp only
                have Hm' := Lib.hid (bblock hb9 Hm.out); clear Hm; have Hm := Hm'; clear Hm'
                have Hn' := Lib.hid (bblock hb9 Hn.out); clear Hn; have Hn := Hn'; clear Hn'
                have Hx' := Lib.hid (bblock hb9 Hx.out); clear Hx; have Hx := Hx'; clear Hx'
                have Hrd' := Lib.hid (RRow.below Hrd.out hb9); have HRn' := Lib.hid (RRow.below HRn.out hb9); have HAx' := Lib.hid (HAx.out.below hb9); have HB' := Lib.hid (below_call HB.out hb9); clear Hrd HRn HAx HB hb9; have Hrd := Hrd'; have HRn := HRn'; have HAx := HAx'; have HB := HB'; clear Hrd' HRn' HAx' HB'
                refine hK23.out _ _ (⟨(cell_of_block (k := 0) Hm.out rfl).1, (cell_of_block (k := 1) Hm.out rfl).1, (cell_of_block (k := 2) Hm.out rfl).1, (cell_of_block (k := 3) Hm.out rfl).1, (cell_of_block (k := 4) Hm.out rfl).1, (cell_of_block (k := 5) Hm.out rfl).1, (cell_of_block (k := 0) Hn.out rfl).1, (cell_of_block (k := 1) Hn.out rfl).1, (cell_of_block (k := 2) Hn.out rfl).1, (cell_of_block (k := 3) Hn.out rfl).1, (cell_of_block (k := 4) Hn.out rfl).1, (cell_of_block (k := 5) Hn.out rfl).1, (cell_of_block (k := 0) Hx.out rfl).1, (cell_of_block (k := 1) Hx.out rfl).1, (cell_of_block (k := 2) Hx.out rfl).1, (cell_of_block (k := 3) Hx.out rfl).1, (cell_of_block (k := 4) Hx.out rfl).1, (cell_of_block (k := 5) Hx.out rfl).1⟩) (fun h23 => ?_)
                try simp only [Act.put, List.setIfInBounds_toArray, List.set_cons_zero, List.set_cons_succ]
                refine wpAnyH_ready (rs := [30]) (by kernel_rfl) (by simp) ?_
                refine AllReadyH.cons (o := ⟨some 141, _, _, _, _, _⟩) rfl (fun K24 hK24 => ?_) AllReadyH.nil
                go_simp
                refine (HX.out _ HAx.out).mono ?_
                rintro e z7 ⟨A9, c9, rfl, hr9, hb9⟩
                dsimp only
                have Hr9 := Lib.hid hr9; clear hr9
                have Hm' := Lib.hid (bblock hb9 Hm.out); clear Hm; have Hm := Hm'; clear Hm'
                have Hn' := Lib.hid (bblock hb9 Hn.out); clear Hn; have Hn := Hn'; clear Hn'
                have Hx' := Lib.hid (bblock hb9 Hx.out); clear Hx; have Hx := Hx'; clear Hx'
                have Hrd' := Lib.hid (RRow.below Hrd.out hb9); have HRn' := Lib.hid (RRow.below HRn.out hb9); have HAx' := Lib.hid (HAx.out.below hb9); have HB' := Lib.hid (below_call HB.out hb9); clear Hrd HRn HAx HB hb9; have Hrd := Hrd'; have HRn := HRn'; have HAx := HAx'; have HB := HB'; clear Hrd' HRn' HAx' HB'
                refine hK24.out _ _ (⟨(cell_of_block (k := 0) Hm.out rfl).1, (cell_of_block (k := 1) Hm.out rfl).1, (cell_of_block (k := 2) Hm.out rfl).1, (cell_of_block (k := 3) Hm.out rfl).1, (cell_of_block (k := 4) Hm.out rfl).1, (cell_of_block (k := 5) Hm.out rfl).1, (cell_of_block (k := 0) Hn.out rfl).1, (cell_of_block (k := 1) Hn.out rfl).1, (cell_of_block (k := 2) Hn.out rfl).1, (cell_of_block (k := 3) Hn.out rfl).1, (cell_of_block (k := 4) Hn.out rfl).1, (cell_of_block (k := 5) Hn.out rfl).1, (cell_of_block (k := 0) Hx.out rfl).1, (cell_of_block (k := 1) Hx.out rfl).1, (cell_of_block (k := 2) Hx.out rfl).1, (cell_of_block (k := 3) Hx.out rfl).1, (cell_of_block (k := 4) Hx.out rfl).1, (cell_of_block (k := 5) Hx.out rfl).1⟩) (fun h24 => ?_)
                try simp only [Act.put, List.setIfInBounds_toArray, List.set_cons_zero, List.set_cons_succ]
                refine wpAnyH_ready (rs := [32]) (by kernel_rfl) (by simp) ?_
                refine AllReadyH.cons (o := ⟨some 143, _, _, _, _, _⟩) rfl (fun K25 hK25 => ?_) AllReadyH.nil
                go_simp
                refine (HSd.out _ _ _ _ _ _ _ Hr9.out Hrd.out).mono ?_
                rintro e z8 ⟨rfl, hb9⟩
                dsimp only
                have Hm' := Lib.hid (bblock hb9 Hm.out); clear Hm; have Hm := Hm'; clear Hm'
                have Hn' := Lib.hid (bblock hb9 Hn.out); clear Hn; have Hn := Hn'; clear Hn'
                have Hx' := Lib.hid (bblock hb9 Hx.out); clear Hx; have Hx := Hx'; clear Hx'
                have Hrd' := Lib.hid (RRow.below Hrd.out hb9); have HRn' := Lib.hid (RRow.below HRn.out hb9); have HAx' := Lib.hid (HAx.out.below hb9); have HB' := Lib.hid (below_call HB.out hb9); clear Hrd HRn HAx HB hb9; have Hrd := Hrd'; have HRn := HRn'; have HAx := HAx'; have HB := HB'; clear Hrd' HRn' HAx' HB'
                refine hK25.out _ _ (⟨(cell_of_block (k := 0) Hm.out rfl).1, (cell_of_block (k := 1) Hm.out rfl).1, (cell_of_block (k := 2) Hm.out rfl).1, (cell_of_block (k := 3) Hm.out rfl).1, (cell_of_block (k := 4) Hm.out rfl).1, (cell_of_block (k := 5) Hm.out rfl).1, (cell_of_block (k := 0) Hn.out rfl).1, (cell_of_block (k := 1) Hn.out rfl).1, (cell_of_block (k := 2) Hn.out rfl).1, (cell_of_block (k := 3) Hn.out rfl).1, (cell_of_block (k := 4) Hn.out rfl).1, (cell_of_block (k := 5) Hn.out rfl).1, (cell_of_block (k := 0) Hx.out rfl).1, (cell_of_block (k := 1) Hx.out rfl).1, (cell_of_block (k := 2) Hx.out rfl).1, (cell_of_block (k := 3) Hx.out rfl).1, (cell_of_block (k := 4) Hx.out rfl).1, (cell_of_block (k := 5) Hx.out rfl).1⟩) (fun h25 => ?_)
                try simp only [Act.put, List.setIfInBounds_toArray, List.set_cons_zero, List.set_cons_succ]
                refine wpAnyH_take (i := 33) (oi := ⟨some 144, _, _, _, _, _⟩) (v := ?vt26x33) rfl (by kernel_rfl) (by kernel_rfl) (by kernel_rfl) (fun _ _ _ h => h) (Or.inl ⟨by rfl, ?hyt26x33⟩) (by exact (by exact ⟨(cell_of_block (k := 0) Hm.out rfl).1, (cell_of_block (k := 1) Hm.out rfl).1, (cell_of_block (k := 2) Hm.out rfl).1, (cell_of_block (k := 3) Hm.out rfl).1, (cell_of_block (k := 4) Hm.out rfl).1, (cell_of_block (k := 5) Hm.out rfl).1, (cell_of_block (k := 0) Hn.out rfl).1, (cell_of_block (k := 1) Hn.out rfl).1, (cell_of_block (k := 2) Hn.out rfl).1, (cell_of_block (k := 3) Hn.out rfl).1, (cell_of_block (k := 4) Hn.out rfl).1, (cell_of_block (k := 5) Hn.out rfl).1, (cell_of_block (k := 0) Hx.out rfl).1, (cell_of_block (k := 1) Hx.out rfl).1, (cell_of_block (k := 2) Hx.out rfl).1, (cell_of_block (k := 3) Hx.out rfl).1, (cell_of_block (k := 4) Hx.out rfl).1, (cell_of_block (k := 5) Hx.out rfl).1⟩)) ?ret26x33
                case hyt26x33 => (intro ww hSw; (try dsimp only at hSw); go_simp; first | done | with_reducible rfl)
                try simp only [Act.put, List.setIfInBounds_toArray, List.set_cons_zero, List.set_cons_succ]
                refine wpAnyH_take (i := 34) (oi := ⟨some 145, _, _, _, _, _⟩) (v := ?vt26x34) rfl (by kernel_rfl) (by kernel_rfl) (by kernel_rfl) (fun _ _ _ h => h) (Or.inl ⟨by rfl, ?hyt26x34⟩) (by exact (by exact ⟨(cell_of_block (k := 0) Hm.out rfl).1, (cell_of_block (k := 1) Hm.out rfl).1, (cell_of_block (k := 2) Hm.out rfl).1, (cell_of_block (k := 3) Hm.out rfl).1, (cell_of_block (k := 4) Hm.out rfl).1, (cell_of_block (k := 5) Hm.out rfl).1, (cell_of_block (k := 0) Hn.out rfl).1, (cell_of_block (k := 1) Hn.out rfl).1, (cell_of_block (k := 2) Hn.out rfl).1, (cell_of_block (k := 3) Hn.out rfl).1, (cell_of_block (k := 4) Hn.out rfl).1, (cell_of_block (k := 5) Hn.out rfl).1, (cell_of_block (k := 0) Hx.out rfl).1, (cell_of_block (k := 1) Hx.out rfl).1, (cell_of_block (k := 2) Hx.out rfl).1, (cell_of_block (k := 3) Hx.out rfl).1, (cell_of_block (k := 4) Hx.out rfl).1, (cell_of_block (k := 5) Hx.out rfl).1⟩)) ?ret26x34
                case hyt26x34 => (intro ww hSw; (try dsimp only at hSw); go_simp; first | done | with_reducible rfl)
                try simp only [Act.put, List.setIfInBounds_toArray, List.set_cons_zero, List.set_cons_succ]
                refine wpAnyH_done (by kernel_rfl) ?_ _
                go_wp2_with fail
                go_roundw
                case rel => exact ⟨j + 1, by omega, by go_num, HB.out⟩
                case measure => simp [intOf]; omega
              · have hjl : decide ((j : Int) < 4) = false := by simp; omega
                go_wp2_with fail
                go_ret
                exact ⟨rfl, below_call HB HR⟩
end Go.Proofs.Ythdggmigjddneaa.Dn
