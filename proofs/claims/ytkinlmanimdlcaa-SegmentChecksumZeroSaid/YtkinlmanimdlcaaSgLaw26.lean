/-
  The walk of the law SegmentChecksumZero of chapter 11.
-/
import Derived.Test.YtkinlmanimdlcaaSgArg
import Derived.Test.YtkinlmanimdlcaaSgEx
namespace Go.Proofs.Ytkinlmanimdlcaa.Sg
open Go.RowKit Go.Proofs.Ytkinlmanimdlcaa.Wire

set_option maxRecDepth 100000 in
set_option maxHeartbeats 4000000 in
theorem law26_any (fp tp sq ack : Int) (syn fin rst ha : Bool) (win mss : Int) (sacks : Bool) (A : Option Addr) (n c : Nat) (bl : List (Int × Int)) (s : ByteArray) (kind from_ to_ : Int) (w : World) (hfp : In64 fp) (htp : In64 tp) (hsq : In64 sq) (hack : In64 ack) (hwin : In64 win) (hmss : In64 mss) (hkind : In64 kind) (hf : In64 from_) (ht : In64 to_) (hA : ArgB w A n c bl) :
    Calls Try.prog 7 #[.agg #[.int .i64 fp, .int .i64 tp, .int .i64 sq, .int .i64 ack, .bool syn, .bool fin, .bool rst, .bool ha, .int .i64 win, .int .i64 mss, .bool sacks, .slice A n c, .string s], .int .i64 kind, .int .i64 from_, .int .i64 to_] w fun e w' => e = .returned (.bool true) ∧ Below w.heap.size w w' := by
  have HC := Lib.hid fun W (hA : ArgB W A n c bl) => cut_any fp tp sq ack syn fin rst ha win mss sacks A n c bl s W hfp htp hsq hack hwin hmss hA
  have HS := Lib.hid fun x A c W (hx : Seg.raw x) hb => segOf_raw x A c kind W hx hkind hb
  have hp := pick_lt from_ 4294967296 (by omega)
  have hq := pick_lt to_ 4294967296 (by omega)
  have HP := Lib.hid fun W => pick_any from_ 4294967296 W hf.1 hf.2 (by omega) (by omega)
  have HQ := Lib.hid fun W => pick_any to_ 4294967296 W ht.1 ht.2 (by omega) (by omega)
  generalize pick from_ 4294967296 = p at *
  generalize pick to_ 4294967296 = q at *
  obtain ⟨hp0, hp1⟩ := hp
  obtain ⟨hq0, hq1⟩ := hq
  clear hfp htp hsq hack hwin hmss hkind hf ht
  have Hx := Lib.hid (alloc_new w (.cells #[.int .i64 fp, .int .i64 tp, .int .i64 sq, .int .i64 ack, .bool syn, .bool fin, .bool rst, .bool ha, .int .i64 win, .int .i64 mss, .bool sacks, .slice A n c, .string s] 24))
  have HB := below_alloc (o := .cells #[.int .i64 fp, .int .i64 tp, .int .i64 sq, .int .i64 ack, .bool syn, .bool fin, .bool rst, .bool ha, .int .i64 win, .int .i64 mss, .bool sacks, .slice A n c, .string s] 24) (Below.refl w.heap.size w)
  have HA := Lib.hid (hA.alloc (.cells #[.int .i64 fp, .int .i64 tp, .int .i64 sq, .int .i64 ack, .bool syn, .bool fin, .bool rst, .bool ha, .int .i64 win, .int .i64 mss, .bool sacks, .slice A n c, .string s] 24)); clear hA
  go_enter Try.func7, Try.ntmps7
  go_wp2_with fail
  refine (examples_any _).mono ?_
  rintro e w1 ⟨rfl, hb⟩
  have Hx' := Lib.hid (bblock hb Hx.out); clear Hx; have Hx := Hx'; clear Hx'
  have HA' := Lib.hid (HA.out.below hb); clear HA; have HA := HA'; clear HA'
  have HB' := below_call HB hb; clear HB hb; have HB := HB'; clear HB'; have hz := HB.size
  go_wp2_with fail
  refine (HP.out _).mono ?_
  rintro e w' ⟨rfl, rfl⟩
  go_wp2_with fail
  refine (HQ.out _).mono ?_
  rintro e w' ⟨rfl, rfl⟩
  have qx0 := (cell_of_block (k := 0) Hx.out rfl).1; have zx0 := (cell_of_block (k := 0) Hx.out rfl).2; have qx1 := (cell_of_block (k := 1) Hx.out rfl).1; have zx1 := (cell_of_block (k := 1) Hx.out rfl).2; have qx2 := (cell_of_block (k := 2) Hx.out rfl).1; have zx2 := (cell_of_block (k := 2) Hx.out rfl).2; have qx3 := (cell_of_block (k := 3) Hx.out rfl).1; have zx3 := (cell_of_block (k := 3) Hx.out rfl).2; have qx4 := (cell_of_block (k := 4) Hx.out rfl).1; have zx4 := (cell_of_block (k := 4) Hx.out rfl).2; have qx5 := (cell_of_block (k := 5) Hx.out rfl).1; have zx5 := (cell_of_block (k := 5) Hx.out rfl).2; have qx6 := (cell_of_block (k := 6) Hx.out rfl).1; have zx6 := (cell_of_block (k := 6) Hx.out rfl).2; have qx7 := (cell_of_block (k := 7) Hx.out rfl).1; have zx7 := (cell_of_block (k := 7) Hx.out rfl).2; have qx8 := (cell_of_block (k := 8) Hx.out rfl).1; have zx8 := (cell_of_block (k := 8) Hx.out rfl).2; have qx9 := (cell_of_block (k := 9) Hx.out rfl).1; have zx9 := (cell_of_block (k := 9) Hx.out rfl).2; have qx10 := (cell_of_block (k := 10) Hx.out rfl).1; have zx10 := (cell_of_block (k := 10) Hx.out rfl).2; have qx11 := (cell_of_block (k := 11) Hx.out rfl).1; have zx11 := (cell_of_block (k := 11) Hx.out rfl).2; have qx12 := (cell_of_block (k := 12) Hx.out rfl).1; have zx12 := (cell_of_block (k := 12) Hx.out rfl).2; have lt_x := blk_lt Hx.out
  go_wp2_with fail
  clear qx0 zx0 qx1 zx1 qx2 zx2 qx3 zx3 qx4 zx4 qx5 zx5 qx6 zx6 qx7 zx7 qx8 zx8 qx9 zx9 qx10 zx10 qx11 zx11 qx12 zx12 lt_x
  refine (HC.out _ HA.out).mono ?_
  rintro e w2 ⟨x, A2, c2, hx, rfl, hbk, hb⟩
  have HX := Lib.hid hx; clear hx
  have HK := Lib.hid hbk; clear hbk
  have HB' := below_call HB hb; clear HB hb; have HB := HB'; clear HB'; have hz := HB.size
  go_wp2_with fail
  refine (HS.out x A2 c2 _ HX.out HK.out).mono ?_
  rintro e w3 ⟨y, A3, c3, hy, rfl, hbk, hb⟩
  have hE : (y.enc p q).length ≤ 1100 := enc_le p q y hy
  have HCS : Hid (csum ⟨(pseudo p q (y.enc p q).length ++ y.enc p q).toArray⟩ = 0) := Lib.hid (enc_csum p q y)
  have HEn := Lib.hid fun W hb => enc_ok p q y A3 c3 W ⟨hp0, by omega⟩ ⟨hq0, by omega⟩ hy hb
  have HK3 := Lib.hid hbk; clear hbk hy
  clear HX HK
  generalize y.enc p q = E at *
  have HB' := below_call HB hb; clear HB hb; have HB := HB'; clear HB'; have hz := HB.size
  go_wp2_with fail
  refine (HEn.out _ HK3.out).mono ?_
  rintro e w4 ⟨rfl, hb⟩
  have HB' := below_call HB hb; clear HB hb; have HB := HB'; clear HB'; have hz := HB.size
  go_wp2_with fail
  refine (put4S p _ hp0 hp1).mono ?_
  rintro e w5 ⟨rfl, hb⟩
  have HB' := below_call HB hb; clear HB hb; have HB := HB'; clear HB'; have hz := HB.size
  go_wp2_with fail
  refine (put4S q _ hq0 hq1).mono ?_
  rintro e w6 ⟨rfl, hb⟩
  have HB' := below_call HB hb; clear HB hb; have HB := HB'; clear HB'; have hz := HB.size
  go_wp2_with fail
  refine (put2S 6 _ (by omega) (by omega)).mono ?_
  rintro e w7 ⟨rfl, hb⟩
  have HB' := below_call HB hb; clear HB hb; have HB := HB'; clear HB'; have hz := HB.size
  go_wp2_with fail
  refine (put2S (E.length : Int) _ (by omega) (by omega)).mono ?_
  rintro e w8 ⟨rfl, hb⟩
  have HB' := below_call HB hb; clear HB hb; have HB := HB'; clear HB'; have hz := HB.size
  have hbe := be_length
  have q1 : ¬ 9223372036854775807 < (be 4 p).length + (be 4 q).length := by simp [hbe]
  have q2 : ¬ 9223372036854775807 < (be 4 p).length + (be 4 q).length + (be 2 6).length := by simp [hbe]
  have q3 : ¬ 9223372036854775807 < (be 4 p).length + (be 4 q).length + (be 2 6).length + (be 2 (E.length : Int)).length := by simp [hbe]
  have q4 : ¬ 9223372036854775807 < (be 4 p).length + (be 4 q).length + (be 2 6).length + (be 2 (E.length : Int)).length + E.length := by simp [hbe]; omega
  clear hbe
  go_wp2_with fail
  refine (checksum_any _ (by rw [ba_append, ba_append, ba_append, ba_append, sz]; simp [be_length]; omega) _).mono ?_
  rintro e w9 ⟨rfl, hb⟩
  have HB' := below_call HB hb; clear HB hb; have HB := HB'; clear HB'; have hz := HB.size
  have hcs : csum (⟨(be 4 p).toArray⟩ ++ ⟨(be 4 q).toArray⟩ ++ ⟨(be 2 6).toArray⟩ ++ ⟨(be 2 (E.length : Int)).toArray⟩ ++ ⟨E.toArray⟩) = 0 := by
    rw [ba_append, ba_append, ba_append, ba_append, ← HCS.out]; simp [pseudo, bes]
  clear q1 q2 q3 q4
  generalize csum (⟨(be 4 p).toArray⟩ ++ ⟨(be 4 q).toArray⟩ ++ ⟨(be 2 6).toArray⟩ ++ ⟨(be 2 (E.length : Int)).toArray⟩ ++ ⟨E.toArray⟩) = cs at *
  subst hcs
  go_wp2_with fail
  go_ret
  exact ⟨rfl, HB⟩
end Go.Proofs.Ytkinlmanimdlcaa.Sg
