/-
  Contracts of segment.Encode.
-/
import Derived.Test.YtmgjcjacoegocaaDoorSgWrite
import Derived.Test.YtmgjcjacoegocaaDoorRef01
namespace Go.Proofs.YtmgjcjacoegocaaDoor.Sg
set_option maxRecDepth 100000
open Go.RowKit Go.Proofs.YtmgjcjacoegocaaDoor.Wire

theorem ret2_str {a b : ByteArray} {v : Value} (h : a = b) : Ending.returned (.tuple #[.string a, v]) = .returned (.tuple #[.string b, v]) := by rw [h]
theorem addr_any (a : Int) (w : World) : Calls Tryd.prog 13 #[.int .i64 a] w fun e w' => e = .returned (.bool (adrB a)) ∧ w = w' := by
  go_enter Tryd.func13, Tryd.ntmps13
  go_wp2
  all_goals
    go_ret
    exact ⟨ret_bool (by first | (rw [Bool.eq_iff_iff]; simp only [adrB, decide_eq_true_iff]; unfold Adr; omega) | (exact (decide_eq_false (fun q => by unfold Adr at q; omega)).symm)), rfl⟩
theorem addr_yes (a : Int) (h : Adr a) (w : World) : Calls Tryd.prog 13 #[.int .i64 a] w fun e w' => e = .returned (.bool true) ∧ w = w' := by
  have := addr_any a w
  rwa [show adrB a = true from decide_eq_true h] at this
theorem addr_no (a : Int) (h : ¬ Adr a) (w : World) : Calls Tryd.prog 13 #[.int .i64 a] w fun e w' => e = .returned (.bool false) ∧ w = w' := by
  have := addr_any a w
  rwa [show adrB a = false from decide_eq_false h] at this
/-- the pseudo-header -/
def pseudo (f t : Int) (n : Nat) : List UInt8 := bes 4 [f, t] ++ bes 2 [6, (n : Int)]
/-- the encoding, by the segment's bytes with each checksum -/
def encOf (f t : Int) (by_ : Int → List UInt8) : List UInt8 := by_ (csum ⟨(pseudo f t (by_ 0).length ++ by_ 0).toArray⟩)
theorem sbytes_length (fp tp sq ack : Int) (syn fin rst ha : Bool) (win mss : Int) (sacks : Bool) (bl : List (Int × Int)) (s : ByteArray) (sum : Int) : (sbytes fp tp sq ack syn fin rst ha win mss sacks bl s sum).length = 20 + 8 * bl.length + s.size := by
  unfold sbytes
  have : s.data.toList.length = s.size := rfl
  simp only [List.length_append, bes_length, blBytes_length, this, List.length_cons, List.length_nil]
  omega
theorem csum_bd (s : ByteArray) : 0 ≤ csum s ∧ csum s ≤ 65535 := by
  have h := total_bd s ((s.size + 1) / 2)
  unfold csum wsum fold
  split <;> omega
def sb (fp tp sq ack : Int) (syn fin rst ha : Bool) (win mss : Int) (sacks : Bool) (bl : List (Int × Int)) (s : ByteArray) : Int → List UInt8 := sbytes fp tp sq ack syn fin rst ha win mss sacks bl s

set_option maxRecDepth 100000 in
set_option maxHeartbeats 4000000 in
theorem Encode_ok (f t : Int) (fp tp sq ack : Int) (syn fin rst ha : Bool) (win mss : Int) (sacks : Bool) (A : Option Addr) (n c : Nat) (bl : List (Int × Int)) (s : ByteArray) (w : World) (hf : Adr f) (ht : Adr t) (hv : Vld fp tp sq ack syn fin rst ha win mss sacks bl s.size) (hb : Bks w A n bl) :
    Calls Tryd.prog 9 #[.int .i64 f, .int .i64 t, .agg #[.int .i64 fp, .int .i64 tp, .int .i64 sq, .int .i64 ack, .bool syn, .bool fin, .bool rst, .bool ha, .int .i64 win, .int .i64 mss, .bool sacks, .slice A n c, .string s]] w fun e w' => e = .returned (.tuple #[.string ⟨(encOf f t (sb fp tp sq ack syn fin rst ha win mss sacks bl s)).toArray⟩, .int .i64 0]) ∧ Below w.heap.size w w' := by
  have HB0 := Lib.hid hb; clear hb
  have HL := Lib.hid HB0.out.1
  have hn3 : n ≤ 3 := by have := hv.2.2.1.1.1; have := HL.out; omega
  have hs : s.size ≤ 1024 := by have h := hv.2.2.2; unfold VS at h; split at h <;> omega
  have HV : Hid (∀ w, Bks w A n bl → Calls Tryd.prog 27 #[.agg #[.int .i64 fp, .int .i64 tp, .int .i64 sq, .int .i64 ack, .bool syn, .bool fin, .bool rst, .bool ha, .int .i64 win, .int .i64 mss, .bool sacks, .slice A n c, .string s]] w fun e w' => e = .returned (.bool true) ∧ Below w.heap.size w w') := Lib.hid fun w hb => by
    have := valid_any fp tp sq ack syn fin rst ha win mss sacks A n c bl s w (by omega) hb
    rwa [show vldB fp tp sq ack syn fin rst ha win mss sacks bl s.size = true from decide_eq_true hv] at this
  have HW : Hid (∀ (sum : Int) w, 0 ≤ sum → sum ≤ 65535 → Bks w A n bl → Calls Tryd.prog 29 #[.agg #[.int .i64 fp, .int .i64 tp, .int .i64 sq, .int .i64 ack, .bool syn, .bool fin, .bool rst, .bool ha, .int .i64 win, .int .i64 mss, .bool sacks, .slice A n c, .string s], .int .i64 sum] w fun e w' => e = .returned (.string ⟨(sb fp tp sq ack syn fin rst ha win mss sacks bl s sum).toArray⟩) ∧ Below w.heap.size w w') := Lib.hid fun sum w h0 h1 hb => write_any fp tp sq ack syn fin rst ha win mss sacks A n c bl s sum w h0 h1 hv hb
  have hlen : (sb fp tp sq ack syn fin rst ha win mss sacks bl s 0).length ≤ 1100 := by unfold sb; rw [sbytes_length, HL.out]; omega
  clear hv
  generalize sb fp tp sq ack syn fin rst ha win mss sacks bl s = SBY at *
  have HF := Lib.hid fun w => addr_yes f hf w
  have HT := Lib.hid fun w => addr_yes t ht w
  obtain ⟨hf0, hf1⟩ := hf
  obtain ⟨ht0, ht1⟩ := ht
  have HBk := Lib.hid fun W (hb : Below w.heap.size w W) => HB0.out.below hb; clear HB0
  have Hx := Lib.hid (alloc_new w (.cells #[.int .i64 fp, .int .i64 tp, .int .i64 sq, .int .i64 ack, .bool syn, .bool fin, .bool rst, .bool ha, .int .i64 win, .int .i64 mss, .bool sacks, .slice A n c, .string s] 24))
  have HB := below_alloc (o := .cells #[.int .i64 fp, .int .i64 tp, .int .i64 sq, .int .i64 ack, .bool syn, .bool fin, .bool rst, .bool ha, .int .i64 win, .int .i64 mss, .bool sacks, .slice A n c, .string s] 24) (Below.refl w.heap.size w)
  have qx0 := (cell_of_block (k := 0) Hx.out rfl).1; have zx0 := (cell_of_block (k := 0) Hx.out rfl).2; have qx1 := (cell_of_block (k := 1) Hx.out rfl).1; have zx1 := (cell_of_block (k := 1) Hx.out rfl).2; have qx2 := (cell_of_block (k := 2) Hx.out rfl).1; have zx2 := (cell_of_block (k := 2) Hx.out rfl).2; have qx3 := (cell_of_block (k := 3) Hx.out rfl).1; have zx3 := (cell_of_block (k := 3) Hx.out rfl).2; have qx4 := (cell_of_block (k := 4) Hx.out rfl).1; have zx4 := (cell_of_block (k := 4) Hx.out rfl).2; have qx5 := (cell_of_block (k := 5) Hx.out rfl).1; have zx5 := (cell_of_block (k := 5) Hx.out rfl).2; have qx6 := (cell_of_block (k := 6) Hx.out rfl).1; have zx6 := (cell_of_block (k := 6) Hx.out rfl).2; have qx7 := (cell_of_block (k := 7) Hx.out rfl).1; have zx7 := (cell_of_block (k := 7) Hx.out rfl).2; have qx8 := (cell_of_block (k := 8) Hx.out rfl).1; have zx8 := (cell_of_block (k := 8) Hx.out rfl).2; have qx9 := (cell_of_block (k := 9) Hx.out rfl).1; have zx9 := (cell_of_block (k := 9) Hx.out rfl).2; have qx10 := (cell_of_block (k := 10) Hx.out rfl).1; have zx10 := (cell_of_block (k := 10) Hx.out rfl).2; have qx11 := (cell_of_block (k := 11) Hx.out rfl).1; have zx11 := (cell_of_block (k := 11) Hx.out rfl).2; have qx12 := (cell_of_block (k := 12) Hx.out rfl).1; have zx12 := (cell_of_block (k := 12) Hx.out rfl).2; have lt_x := blk_lt Hx.out
  go_enter Tryd.func9, Tryd.ntmps9
  go_wp2_with fail
  refine (HF.out _).mono ?_
  rintro e w' ⟨rfl, rfl⟩
  go_wp2_with fail
  refine (HT.out _).mono ?_
  rintro e w' ⟨rfl, rfl⟩
  go_wp2_with fail
  clear qx0 zx0 qx1 zx1 qx2 zx2 qx3 zx3 qx4 zx4 qx5 zx5 qx6 zx6 qx7 zx7 qx8 zx8 qx9 zx9 qx10 zx10 qx11 zx11 qx12 zx12 lt_x
  refine (HV.out _ (HBk.out _ HB)).mono ?_
  rintro e w1 ⟨rfl, hb⟩
  have Hx' := Lib.hid (bblock hb Hx.out); clear Hx; have Hx := Hx'; clear Hx'
  have HB' := below_call HB hb; clear HB hb; have HB := HB'; clear HB'; have hz := HB.size
  have qx0 := (cell_of_block (k := 0) Hx.out rfl).1; have zx0 := (cell_of_block (k := 0) Hx.out rfl).2; have qx1 := (cell_of_block (k := 1) Hx.out rfl).1; have zx1 := (cell_of_block (k := 1) Hx.out rfl).2; have qx2 := (cell_of_block (k := 2) Hx.out rfl).1; have zx2 := (cell_of_block (k := 2) Hx.out rfl).2; have qx3 := (cell_of_block (k := 3) Hx.out rfl).1; have zx3 := (cell_of_block (k := 3) Hx.out rfl).2; have qx4 := (cell_of_block (k := 4) Hx.out rfl).1; have zx4 := (cell_of_block (k := 4) Hx.out rfl).2; have qx5 := (cell_of_block (k := 5) Hx.out rfl).1; have zx5 := (cell_of_block (k := 5) Hx.out rfl).2; have qx6 := (cell_of_block (k := 6) Hx.out rfl).1; have zx6 := (cell_of_block (k := 6) Hx.out rfl).2; have qx7 := (cell_of_block (k := 7) Hx.out rfl).1; have zx7 := (cell_of_block (k := 7) Hx.out rfl).2; have qx8 := (cell_of_block (k := 8) Hx.out rfl).1; have zx8 := (cell_of_block (k := 8) Hx.out rfl).2; have qx9 := (cell_of_block (k := 9) Hx.out rfl).1; have zx9 := (cell_of_block (k := 9) Hx.out rfl).2; have qx10 := (cell_of_block (k := 10) Hx.out rfl).1; have zx10 := (cell_of_block (k := 10) Hx.out rfl).2; have qx11 := (cell_of_block (k := 11) Hx.out rfl).1; have zx11 := (cell_of_block (k := 11) Hx.out rfl).2; have qx12 := (cell_of_block (k := 12) Hx.out rfl).1; have zx12 := (cell_of_block (k := 12) Hx.out rfl).2; have lt_x := blk_lt Hx.out
  go_wp2_with fail
  clear qx0 zx0 qx1 zx1 qx2 zx2 qx3 zx3 qx4 zx4 qx5 zx5 qx6 zx6 qx7 zx7 qx8 zx8 qx9 zx9 qx10 zx10 qx11 zx11 qx12 zx12 lt_x
  refine (HW.out 0 _ (by omega) (by omega) (HBk.out _ HB)).mono ?_
  rintro e w2 ⟨rfl, hb⟩
  have Hx' := Lib.hid (bblock hb Hx.out); clear Hx; have Hx := Hx'; clear Hx'
  have HB' := below_call HB hb; clear HB hb; have HB := HB'; clear HB'; have hz := HB.size
  have HS0 : Hid (SBY = SBY) := Lib.hid rfl
  go_wp2_with fail
  refine (put_any 4 _ 2 2 [f, t] _ (by omega) (by omega) rfl (by omega) (by simp; omega) (by exact alloc_new' _ _ _ (by simp))).mono ?_
  rintro e w3 ⟨rfl, hb⟩
  have Hx' := Lib.hid (bblock hb (block_alloc Hx.out _)); clear Hx; have Hx := Hx'; clear Hx'
  have HB' := below_call (below_alloc HB) hb; clear HB hb hz; have HB := HB'; clear HB'; have hz := HB.size
  go_wp2_with fail
  refine (put_any 2 _ 2 2 [6, (((SBY 0).length : Nat) : Int)] _ (by omega) (by omega) rfl (by omega) (by simp; omega) (by exact alloc_new' _ _ _ (by simp))).mono ?_
  rintro e w4 ⟨rfl, hb⟩
  have Hx' := Lib.hid (bblock hb (block_alloc Hx.out _)); clear Hx; have Hx := Hx'; clear Hx'
  have HB' := below_call (below_alloc HB) hb; clear HB hb hz; have HB := HB'; clear HB'; have hz := HB.size
  have hbl := bes_length
  have q1 : ¬ 9223372036854775807 < (bes 4 [f, t]).length + (bes 2 [6, (((SBY 0).length : Nat) : Int)]).length := by simp [hbl]
  have q2 : ¬ 9223372036854775807 < (bes 4 [f, t]).length + (bes 2 [6, (((SBY 0).length : Nat) : Int)]).length + (SBY 0).length := by simp [hbl]; omega
  clear hbl
  go_wp2_with fail
  refine (checksum_any _ (by rw [ba_append, ba_append, sz]; simp [bes_length]; omega) _).mono ?_
  rintro e w5 ⟨rfl, hb⟩
  have Hx' := Lib.hid (bblock hb Hx.out); clear Hx; have Hx := Hx'; clear Hx'
  have HB' := below_call HB hb; clear HB hb; have HB := HB'; clear HB'; have hz := HB.size
  have hcb := csum_bd (⟨(bes 4 [f, t]).toArray⟩ ++ ⟨(bes 2 [6, (((SBY 0).length : Nat) : Int)]).toArray⟩ ++ ⟨(SBY 0).toArray⟩)
  have HC : Hid (csum (⟨(bes 4 [f, t]).toArray⟩ ++ ⟨(bes 2 [6, (((SBY 0).length : Nat) : Int)]).toArray⟩ ++ ⟨(SBY 0).toArray⟩) = csum ⟨(pseudo f t (SBY 0).length ++ SBY 0).toArray⟩) := Lib.hid (by rw [ba_append, ba_append]; rfl)
  generalize csum (⟨(bes 4 [f, t]).toArray⟩ ++ ⟨(bes 2 [6, (((SBY 0).length : Nat) : Int)]).toArray⟩ ++ ⟨(SBY 0).toArray⟩) = cs at *
  obtain ⟨hc0, hc1⟩ := hcb
  clear q1 q2
  have qx0 := (cell_of_block (k := 0) Hx.out rfl).1; have zx0 := (cell_of_block (k := 0) Hx.out rfl).2; have qx1 := (cell_of_block (k := 1) Hx.out rfl).1; have zx1 := (cell_of_block (k := 1) Hx.out rfl).2; have qx2 := (cell_of_block (k := 2) Hx.out rfl).1; have zx2 := (cell_of_block (k := 2) Hx.out rfl).2; have qx3 := (cell_of_block (k := 3) Hx.out rfl).1; have zx3 := (cell_of_block (k := 3) Hx.out rfl).2; have qx4 := (cell_of_block (k := 4) Hx.out rfl).1; have zx4 := (cell_of_block (k := 4) Hx.out rfl).2; have qx5 := (cell_of_block (k := 5) Hx.out rfl).1; have zx5 := (cell_of_block (k := 5) Hx.out rfl).2; have qx6 := (cell_of_block (k := 6) Hx.out rfl).1; have zx6 := (cell_of_block (k := 6) Hx.out rfl).2; have qx7 := (cell_of_block (k := 7) Hx.out rfl).1; have zx7 := (cell_of_block (k := 7) Hx.out rfl).2; have qx8 := (cell_of_block (k := 8) Hx.out rfl).1; have zx8 := (cell_of_block (k := 8) Hx.out rfl).2; have qx9 := (cell_of_block (k := 9) Hx.out rfl).1; have zx9 := (cell_of_block (k := 9) Hx.out rfl).2; have qx10 := (cell_of_block (k := 10) Hx.out rfl).1; have zx10 := (cell_of_block (k := 10) Hx.out rfl).2; have qx11 := (cell_of_block (k := 11) Hx.out rfl).1; have zx11 := (cell_of_block (k := 11) Hx.out rfl).2; have qx12 := (cell_of_block (k := 12) Hx.out rfl).1; have zx12 := (cell_of_block (k := 12) Hx.out rfl).2; have lt_x := blk_lt Hx.out
  go_wp2_with fail
  clear qx0 zx0 qx1 zx1 qx2 zx2 qx3 zx3 qx4 zx4 qx5 zx5 qx6 zx6 qx7 zx7 qx8 zx8 qx9 zx9 qx10 zx10 qx11 zx11 qx12 zx12 lt_x
  refine (HW.out cs _ hc0 hc1 (HBk.out _ HB)).mono ?_
  rintro e w6 ⟨rfl, hb⟩
  have HB' := below_call HB hb; clear HB hb; have HB := HB'; clear HB'; have hz := HB.size
  go_wp2_with fail
  go_ret2
  exact ⟨ret2_str (by unfold encOf; rw [HC.out]), HB⟩

theorem Encode_noaddr (f t : Int) (fp tp sq ack : Int) (syn fin rst ha : Bool) (win mss : Int) (sacks : Bool) (A : Option Addr) (n c : Nat) (s : ByteArray) (w : World) (h : ¬ (Adr f ∧ Adr t)) :
    Calls Tryd.prog 9 #[.int .i64 f, .int .i64 t, .agg #[.int .i64 fp, .int .i64 tp, .int .i64 sq, .int .i64 ack, .bool syn, .bool fin, .bool rst, .bool ha, .int .i64 win, .int .i64 mss, .bool sacks, .slice A n c, .string s]] w fun e w' => e = .returned (.tuple #[.string ⟨#[]⟩, .int .i64 30]) ∧ Below w.heap.size w w' := by
  by_cases hf : Adr f
  · have HF := Lib.hid fun w => addr_yes f hf w
    have HT := Lib.hid fun w => addr_no t (fun q => h ⟨hf, q⟩) w
    clear h hf
    go_enter Tryd.func9, Tryd.ntmps9
    go_wp2_with fail
    refine (HF.out _).mono ?_
    rintro e w' ⟨rfl, rfl⟩
    go_wp2_with fail
    refine (HT.out _).mono ?_
    rintro e w' ⟨rfl, rfl⟩
    go_wp2_with fail
    go_ret2
    exact ⟨rfl, below_alloc (Below.refl _ _)⟩
  · have HF := Lib.hid fun w => addr_no f hf w
    clear h hf
    go_enter Tryd.func9, Tryd.ntmps9
    go_wp2_with fail
    refine (HF.out _).mono ?_
    rintro e w' ⟨rfl, rfl⟩
    go_wp2_with fail
    go_ret2
    exact ⟨rfl, below_alloc (Below.refl _ _)⟩

set_option maxRecDepth 100000 in
set_option maxHeartbeats 4000000 in
theorem Encode_noseg (f t : Int) (fp tp sq ack : Int) (syn fin rst ha : Bool) (win mss : Int) (sacks : Bool) (A : Option Addr) (n c : Nat) (bl : List (Int × Int)) (s : ByteArray) (w : World) (hn : n ≤ 9223372036854775807) (hf : Adr f) (ht : Adr t) (hv : ¬ Vld fp tp sq ack syn fin rst ha win mss sacks bl s.size) (hb : Bks w A n bl) :
    Calls Tryd.prog 9 #[.int .i64 f, .int .i64 t, .agg #[.int .i64 fp, .int .i64 tp, .int .i64 sq, .int .i64 ack, .bool syn, .bool fin, .bool rst, .bool ha, .int .i64 win, .int .i64 mss, .bool sacks, .slice A n c, .string s]] w fun e w' => e = .returned (.tuple #[.string ⟨#[]⟩, .int .i64 110]) ∧ Below w.heap.size w w' := by
  have HB0 := Lib.hid hb; clear hb
  have HV : Hid (∀ w, Bks w A n bl → Calls Tryd.prog 27 #[.agg #[.int .i64 fp, .int .i64 tp, .int .i64 sq, .int .i64 ack, .bool syn, .bool fin, .bool rst, .bool ha, .int .i64 win, .int .i64 mss, .bool sacks, .slice A n c, .string s]] w fun e w' => e = .returned (.bool false) ∧ Below w.heap.size w w') := Lib.hid fun w hb => by
    have := valid_any fp tp sq ack syn fin rst ha win mss sacks A n c bl s w hn hb
    rwa [show vldB fp tp sq ack syn fin rst ha win mss sacks bl s.size = false from decide_eq_false hv] at this
  have HF := Lib.hid fun w => addr_yes f hf w
  have HT := Lib.hid fun w => addr_yes t ht w
  have HBk := Lib.hid fun W (hb : Below w.heap.size w W) => HB0.out.below hb; clear HB0
  clear hv hf ht
  have Hx := Lib.hid (alloc_new w (.cells #[.int .i64 fp, .int .i64 tp, .int .i64 sq, .int .i64 ack, .bool syn, .bool fin, .bool rst, .bool ha, .int .i64 win, .int .i64 mss, .bool sacks, .slice A n c, .string s] 24))
  have HB := below_alloc (o := .cells #[.int .i64 fp, .int .i64 tp, .int .i64 sq, .int .i64 ack, .bool syn, .bool fin, .bool rst, .bool ha, .int .i64 win, .int .i64 mss, .bool sacks, .slice A n c, .string s] 24) (Below.refl w.heap.size w)
  have qx0 := (cell_of_block (k := 0) Hx.out rfl).1; have zx0 := (cell_of_block (k := 0) Hx.out rfl).2; have qx1 := (cell_of_block (k := 1) Hx.out rfl).1; have zx1 := (cell_of_block (k := 1) Hx.out rfl).2; have qx2 := (cell_of_block (k := 2) Hx.out rfl).1; have zx2 := (cell_of_block (k := 2) Hx.out rfl).2; have qx3 := (cell_of_block (k := 3) Hx.out rfl).1; have zx3 := (cell_of_block (k := 3) Hx.out rfl).2; have qx4 := (cell_of_block (k := 4) Hx.out rfl).1; have zx4 := (cell_of_block (k := 4) Hx.out rfl).2; have qx5 := (cell_of_block (k := 5) Hx.out rfl).1; have zx5 := (cell_of_block (k := 5) Hx.out rfl).2; have qx6 := (cell_of_block (k := 6) Hx.out rfl).1; have zx6 := (cell_of_block (k := 6) Hx.out rfl).2; have qx7 := (cell_of_block (k := 7) Hx.out rfl).1; have zx7 := (cell_of_block (k := 7) Hx.out rfl).2; have qx8 := (cell_of_block (k := 8) Hx.out rfl).1; have zx8 := (cell_of_block (k := 8) Hx.out rfl).2; have qx9 := (cell_of_block (k := 9) Hx.out rfl).1; have zx9 := (cell_of_block (k := 9) Hx.out rfl).2; have qx10 := (cell_of_block (k := 10) Hx.out rfl).1; have zx10 := (cell_of_block (k := 10) Hx.out rfl).2; have qx11 := (cell_of_block (k := 11) Hx.out rfl).1; have zx11 := (cell_of_block (k := 11) Hx.out rfl).2; have qx12 := (cell_of_block (k := 12) Hx.out rfl).1; have zx12 := (cell_of_block (k := 12) Hx.out rfl).2; have lt_x := blk_lt Hx.out
  go_enter Tryd.func9, Tryd.ntmps9
  go_wp2_with fail
  refine (HF.out _).mono ?_
  rintro e w' ⟨rfl, rfl⟩
  go_wp2_with fail
  refine (HT.out _).mono ?_
  rintro e w' ⟨rfl, rfl⟩
  go_wp2_with fail
  clear qx0 zx0 qx1 zx1 qx2 zx2 qx3 zx3 qx4 zx4 qx5 zx5 qx6 zx6 qx7 zx7 qx8 zx8 qx9 zx9 qx10 zx10 qx11 zx11 qx12 zx12 lt_x
  refine (HV.out _ (HBk.out _ HB)).mono ?_
  rintro e w1 ⟨rfl, hb⟩
  have HB' := below_call HB hb; clear HB hb; have HB := HB'; clear HB'; have hz := HB.size
  go_wp2_with fail
  go_ret2
  exact ⟨rfl, HB⟩
end Go.Proofs.YtmgjcjacoegocaaDoor.Sg
