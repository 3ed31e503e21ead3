/-
  Contracts of arp.Encode and arp.Decode.
-/
import Derived.Test.YtmgjcjacoegocaaDoorAr0
import Derived.Test.YtmgjcjacoegocaaDoorBase2
import Derived.Test.YtmgjcjacoegocaaDoorStore
import Derived.LoopTactic
import Derived.WalkMore
import Derived.Deep.DeepCutAuto
namespace Go.Proofs.YtmgjcjacoegocaaDoor.Ar
set_option maxRecDepth 100000
open Go.RowKit Go.Proofs.YtmgjcjacoegocaaDoor.Wire

def encM (a : Am) : List UInt8 := be 1 a.op ++ be 4 a.f ++ be 2 a.fm ++ be 4 a.t ++ be 2 a.tm
theorem encM_len (a : Am) : (encM a).length = 13 := by simp [encM, be_length]
def pre (a : Am) : Nat → List UInt8
  | 0 => []
  | 1 => be 1 a.op
  | 2 => be 1 a.op ++ be 4 a.f
  | 3 => be 1 a.op ++ be 4 a.f ++ be 2 a.fm
  | 4 => be 1 a.op ++ be 4 a.f ++ be 2 a.fm ++ be 4 a.t
  | _ => encM a
def offs : Nat → Int
  | 0 => 0
  | 1 => 1
  | 2 => 5
  | 3 => 7
  | 4 => 11
  | _ => 13
def msgOf (s : ByteArray) : Am := ⟨(num (bytesAt s 0 1)), (num (bytesAt s 1 4)), (num (bytesAt s 5 2)), (num (bytesAt s 7 4)), (num (bytesAt s 11 2))⟩
def got (s : ByteArray) : Nat → Array Value
  | 0 => #[.int .i64 0, .int .i64 0, .int .i64 0, .int .i64 0, .int .i64 0]
  | 1 => #[.int .i64 (num (bytesAt s 0 1)), .int .i64 0, .int .i64 0, .int .i64 0, .int .i64 0]
  | 2 => #[.int .i64 (num (bytesAt s 0 1)), .int .i64 (num (bytesAt s 1 4)), .int .i64 0, .int .i64 0, .int .i64 0]
  | 3 => #[.int .i64 (num (bytesAt s 0 1)), .int .i64 (num (bytesAt s 1 4)), .int .i64 (num (bytesAt s 5 2)), .int .i64 0, .int .i64 0]
  | 4 => #[.int .i64 (num (bytesAt s 0 1)), .int .i64 (num (bytesAt s 1 4)), .int .i64 (num (bytesAt s 5 2)), .int .i64 (num (bytesAt s 7 4)), .int .i64 0]
  | _ => #[.int .i64 (num (bytesAt s 0 1)), .int .i64 (num (bytesAt s 1 4)), .int .i64 (num (bytesAt s 5 2)), .int .i64 (num (bytesAt s 7 4)), .int .i64 (num (bytesAt s 11 2))]
theorem encode_no (op f fm t tm : Int) (w : World) (h : ¬ (⟨op, f, fm, t, tm⟩ : Am).ok) :
    Calls Tryd.prog 40 #[.agg #[.int .i64 op, .int .i64 f, .int .i64 fm, .int .i64 t, .int .i64 tm]] w fun e w' => e = .returned (.tuple #[.string ⟨#[]⟩, .int .i64 50]) ∧ Below w.heap.size w w' := by
  have e1 : Am.okB ⟨op, f, fm, t, tm⟩ = false := by
    cases q : Am.okB ⟨op, f, fm, t, tm⟩ with
    | false => rfl
    | true => exact absurd ((Am.okB_iff _).1 q) h
  clear h
  go_enter Tryd.func40, Tryd.ntmps40
  obtain ⟨⟨a0, a1, a2, a3, a4⟩, -⟩ := cells5 (alloc_new w (.cells #[.int .i64 op, .int .i64 f, .int .i64 fm, .int .i64 t, .int .i64 tm] 52))
  go_wp2_with fail
  refine (valid_any op f fm t tm _).mono ?_
  rintro e w2 ⟨rfl, hb⟩
  rw [e1]
  clear a0 a1 a2 a3 a4
  go_wp2_with fail
  go_ret2
  exact ⟨rfl, below_call (below_alloc (Below.refl _ _)) hb⟩
set_option maxHeartbeats 8000000 in
theorem encode_ok (op f fm t tm : Int) (w : World) (h : (⟨op, f, fm, t, tm⟩ : Am).ok) :
    Calls Tryd.prog 40 #[.agg #[.int .i64 op, .int .i64 f, .int .i64 fm, .int .i64 t, .int .i64 tm]] w fun e w' => e = .returned (.tuple #[.string ⟨(encM ⟨op, f, fm, t, tm⟩).toArray⟩, .int .i64 0]) ∧ Below w.heap.size w w' := by
  have e1 : Am.okB ⟨op, f, fm, t, tm⟩ = true := (Am.okB_iff _).2 h
  have hop : 0 ≤ op ∧ op < 256 := by unfold Am.ok at h; dsimp only at h; omega
  have hf : 0 ≤ f ∧ f < 4294967296 := by unfold Am.ok at h; dsimp only at h; omega
  have hfm : 0 ≤ fm ∧ fm < 65536 := by unfold Am.ok at h; dsimp only at h; omega
  have ht : 0 ≤ t ∧ t < 4294967296 := by unfold Am.ok at h; dsimp only at h; omega
  have htm : 0 ≤ tm ∧ tm < 65536 := by unfold Am.ok at h; dsimp only at h; omega
  clear h
  go_enter Tryd.func40, Tryd.ntmps40
  have HX := Lib.hid (alloc_new w (.cells #[.int .i64 op, .int .i64 f, .int .i64 fm, .int .i64 t, .int .i64 tm] 52))
  have HB := Lib.hid (below_alloc (o := .cells #[.int .i64 op, .int .i64 f, .int .i64 fm, .int .i64 t, .int .i64 tm] 52) (Below.refl w.heap.size w))
  obtain ⟨⟨a0, a1, a2, a3, a4⟩, -⟩ := cells5 HX.out
  go_wp2_with fail
  refine (valid_any op f fm t tm _).mono ?_
  rintro e w2 ⟨rfl, hb⟩
  rw [e1]
  have HX2 := Lib.hid (bblock hb HX.out); have HB2 := Lib.hid (below_call HB.out hb)
  clear a0 a1 a2 a3 a4 hb HX HB e1
  obtain ⟨x, hx⟩ : ∃ x, w.heap.size = x := ⟨_, rfl⟩
  have hxl : x < w2.heap.size := by rw [← hx]; exact blk_lt HX2.out
  rw [hx] at HX2
  have HXE := Lib.hid hx
  clear hx
  have HX3 := Lib.hid (block_alloc HX2.out (.cells #[.pointer none, .slice none 0 0] 144))
  have HB3 := Lib.hid (below_alloc (o := .cells #[.pointer none, .slice none 0 0] 144) HB2.out)
  have HI3 := Lib.hid (isB_new w2)
  obtain ⟨⟨a0, a1, a2, a3, a4⟩, -⟩ := cells5 HX3.out
  obtain ⟨b, hb⟩ : ∃ b, w2.heap.size = b := ⟨_, rfl⟩
  rw [hb] at HI3
  have hwb : w.heap.size ≤ b := by rw [← hb]; exact HB2.out.size
  have HBE := Lib.hid hb
  clear hb
  go_upto_region 4 with fail
  rw [HBE.out, HXE.out]
  generalize w2.alloc (.cells #[.pointer none, .slice none 0 0] 144) = w3 at *
  go_wp2_with fail
  clear a0 a1 a2 a3 a4
  go_loopw [28] (fun i wr => ∃ k : Nat, k ≤ 5 ∧ i = .int .i64 (k : Int) ∧ IsB b b (pre ⟨op, f, fm, t, tm⟩ k) wr ∧ Below w.heap.size w wr) (fun i _ => 5 - (Go.RowKit.intOf i).toNat)
  case atStart => exact ⟨0, Nat.zero_le _, rfl, HI3.out, HB3.out⟩
  case round =>
    clear HI3 HB3 HX3 HX2 HB2 HBE HXE
    obtain ⟨k, hk, rfl, hI, hB⟩ := hrel
    have HI := Lib.hid hI; have HB := Lib.hid hB; clear hI hB
    obtain ⟨wx, rfl⟩ : ∃ wo : World, wo = wr := ⟨_, rfl⟩
    have hcase : k = 0 ∨ k = 1 ∨ k = 2 ∨ k = 3 ∨ k = 4 ∨ k = 5 := by omega
    rcases hcase with rfl | rfl | rfl | rfl | rfl | rfl
    · have HI2 := Lib.hid (isB_alloc HI.out (.cells #[.int .i64 op, .int .i64 1] 25))
      have HB2 := Lib.hid (below_alloc (o := .cells #[.int .i64 op, .int .i64 1] 25) HB.out)
      obtain ⟨⟨c0, c1⟩, -⟩ := cells2 (alloc_new wx (.cells #[.int .i64 op, .int .i64 1] 25))
      have hix : ∀ W, (Instr.index 177 (.agg #[.int .i64 op, .int .i64 1, .int .i64 f, .int .i64 4, .int .i64 fm, .int .i64 2, .int .i64 t, .int .i64 4, .int .i64 tm, .int .i64 2]) (.int .i64 0)).run Tryd.prog W = .ok (.agg #[.int .i64 op, .int .i64 1]) W := fun _ => by kernel_rfl
      go_wp2_with fail
      refine (put_okI op 1 _ (by omega) (by omega) (by omega) (by simp; omega)).mono ?_
      rintro e v1 ⟨rfl, hb1⟩
      have HI3 := Lib.hid (isB_below HI2.out hb1); have HB3 := Lib.hid (below_call HB2.out hb1)
      clear c0 c1 hb1 HI HB HI2 HB2
      go_wp2_with fail
      refine (bwrite_any b b _ _ v1 HI3.out (by simp [pre, be_length, ByteArray.size])).mono ?_
      rintro e v2 ⟨rfl, hI2, hb2⟩
      have hB4 := Lib.hid (HB3.out.trans (hb2.mono hwb))
      have HI4 := Lib.hid hI2
      clear hI2 hb2 HI3 HB3
      go_wp2_with fail
      go_roundw
      case rel => exact ⟨1, by omega, by go_num, HI4.out, hB4.out⟩
      case measure => simp [Go.RowKit.intOf]
    · have HI2 := Lib.hid (isB_alloc HI.out (.cells #[.int .i64 f, .int .i64 4] 25))
      have HB2 := Lib.hid (below_alloc (o := .cells #[.int .i64 f, .int .i64 4] 25) HB.out)
      obtain ⟨⟨c0, c1⟩, -⟩ := cells2 (alloc_new wx (.cells #[.int .i64 f, .int .i64 4] 25))
      have hix : ∀ W, (Instr.index 177 (.agg #[.int .i64 op, .int .i64 1, .int .i64 f, .int .i64 4, .int .i64 fm, .int .i64 2, .int .i64 t, .int .i64 4, .int .i64 tm, .int .i64 2]) (.int .i64 1)).run Tryd.prog W = .ok (.agg #[.int .i64 f, .int .i64 4]) W := fun _ => by kernel_rfl
      go_wp2_with fail
      refine (put_okI f 4 _ (by omega) (by omega) (by omega) (by simp; omega)).mono ?_
      rintro e v1 ⟨rfl, hb1⟩
      have HI3 := Lib.hid (isB_below HI2.out hb1); have HB3 := Lib.hid (below_call HB2.out hb1)
      clear c0 c1 hb1 HI HB HI2 HB2
      go_wp2_with fail
      refine (bwrite_any b b _ _ v1 HI3.out (by simp [pre, be_length, ByteArray.size])).mono ?_
      rintro e v2 ⟨rfl, hI2, hb2⟩
      have hB4 := Lib.hid (HB3.out.trans (hb2.mono hwb))
      have HI4 := Lib.hid hI2
      clear hI2 hb2 HI3 HB3
      go_wp2_with fail
      go_roundw
      case rel => exact ⟨2, by omega, by go_num, HI4.out, hB4.out⟩
      case measure => simp [Go.RowKit.intOf]
    · have HI2 := Lib.hid (isB_alloc HI.out (.cells #[.int .i64 fm, .int .i64 2] 25))
      have HB2 := Lib.hid (below_alloc (o := .cells #[.int .i64 fm, .int .i64 2] 25) HB.out)
      obtain ⟨⟨c0, c1⟩, -⟩ := cells2 (alloc_new wx (.cells #[.int .i64 fm, .int .i64 2] 25))
      have hix : ∀ W, (Instr.index 177 (.agg #[.int .i64 op, .int .i64 1, .int .i64 f, .int .i64 4, .int .i64 fm, .int .i64 2, .int .i64 t, .int .i64 4, .int .i64 tm, .int .i64 2]) (.int .i64 2)).run Tryd.prog W = .ok (.agg #[.int .i64 fm, .int .i64 2]) W := fun _ => by kernel_rfl
      go_wp2_with fail
      refine (put_okI fm 2 _ (by omega) (by omega) (by omega) (by simp; omega)).mono ?_
      rintro e v1 ⟨rfl, hb1⟩
      have HI3 := Lib.hid (isB_below HI2.out hb1); have HB3 := Lib.hid (below_call HB2.out hb1)
      clear c0 c1 hb1 HI HB HI2 HB2
      go_wp2_with fail
      refine (bwrite_any b b _ _ v1 HI3.out (by simp [pre, be_length, ByteArray.size])).mono ?_
      rintro e v2 ⟨rfl, hI2, hb2⟩
      have hB4 := Lib.hid (HB3.out.trans (hb2.mono hwb))
      have HI4 := Lib.hid hI2
      clear hI2 hb2 HI3 HB3
      go_wp2_with fail
      go_roundw
      case rel => exact ⟨3, by omega, by go_num, HI4.out, hB4.out⟩
      case measure => simp [Go.RowKit.intOf]
    · have HI2 := Lib.hid (isB_alloc HI.out (.cells #[.int .i64 t, .int .i64 4] 25))
      have HB2 := Lib.hid (below_alloc (o := .cells #[.int .i64 t, .int .i64 4] 25) HB.out)
      obtain ⟨⟨c0, c1⟩, -⟩ := cells2 (alloc_new wx (.cells #[.int .i64 t, .int .i64 4] 25))
      have hix : ∀ W, (Instr.index 177 (.agg #[.int .i64 op, .int .i64 1, .int .i64 f, .int .i64 4, .int .i64 fm, .int .i64 2, .int .i64 t, .int .i64 4, .int .i64 tm, .int .i64 2]) (.int .i64 3)).run Tryd.prog W = .ok (.agg #[.int .i64 t, .int .i64 4]) W := fun _ => by kernel_rfl
      go_wp2_with fail
      refine (put_okI t 4 _ (by omega) (by omega) (by omega) (by simp; omega)).mono ?_
      rintro e v1 ⟨rfl, hb1⟩
      have HI3 := Lib.hid (isB_below HI2.out hb1); have HB3 := Lib.hid (below_call HB2.out hb1)
      clear c0 c1 hb1 HI HB HI2 HB2
      go_wp2_with fail
      refine (bwrite_any b b _ _ v1 HI3.out (by simp [pre, be_length, ByteArray.size])).mono ?_
      rintro e v2 ⟨rfl, hI2, hb2⟩
      have hB4 := Lib.hid (HB3.out.trans (hb2.mono hwb))
      have HI4 := Lib.hid hI2
      clear hI2 hb2 HI3 HB3
      go_wp2_with fail
      go_roundw
      case rel => exact ⟨4, by omega, by go_num, HI4.out, hB4.out⟩
      case measure => simp [Go.RowKit.intOf]
    · have HI2 := Lib.hid (isB_alloc HI.out (.cells #[.int .i64 tm, .int .i64 2] 25))
      have HB2 := Lib.hid (below_alloc (o := .cells #[.int .i64 tm, .int .i64 2] 25) HB.out)
      obtain ⟨⟨c0, c1⟩, -⟩ := cells2 (alloc_new wx (.cells #[.int .i64 tm, .int .i64 2] 25))
      have hix : ∀ W, (Instr.index 177 (.agg #[.int .i64 op, .int .i64 1, .int .i64 f, .int .i64 4, .int .i64 fm, .int .i64 2, .int .i64 t, .int .i64 4, .int .i64 tm, .int .i64 2]) (.int .i64 4)).run Tryd.prog W = .ok (.agg #[.int .i64 tm, .int .i64 2]) W := fun _ => by kernel_rfl
      go_wp2_with fail
      refine (put_okI tm 2 _ (by omega) (by omega) (by omega) (by simp; omega)).mono ?_
      rintro e v1 ⟨rfl, hb1⟩
      have HI3 := Lib.hid (isB_below HI2.out hb1); have HB3 := Lib.hid (below_call HB2.out hb1)
      clear c0 c1 hb1 HI HB HI2 HB2
      go_wp2_with fail
      refine (bwrite_any b b _ _ v1 HI3.out (by simp [pre, be_length, ByteArray.size])).mono ?_
      rintro e v2 ⟨rfl, hI2, hb2⟩
      have hB4 := Lib.hid (HB3.out.trans (hb2.mono hwb))
      have HI4 := Lib.hid hI2
      clear hI2 hb2 HI3 HB3
      go_wp2_with fail
      go_roundw
      case rel => exact ⟨5, by omega, by go_num, HI4.out, hB4.out⟩
      case measure => simp [Go.RowKit.intOf]
    · go_wp2_with fail
      refine (bstring_any b b _ wx HI.out).mono ?_
      rintro e w9 ⟨rfl, hb9⟩
      go_wp2_with fail
      go_ret2
      exact ⟨rfl, HB.out.trans (hb9.mono hwb)⟩
theorem infoMsg : (Tryd.prog.info? 52).map (·.size) = some 5 := by kernel_rfl
def decR (s : ByteArray) : Value := if s.size = 13 ∧ (msgOf s).okB = true then .tuple #[.agg #[.int .i64 (num (bytesAt s 0 1)), .int .i64 (num (bytesAt s 1 4)), .int .i64 (num (bytesAt s 5 2)), .int .i64 (num (bytesAt s 7 4)), .int .i64 (num (bytesAt s 11 2))], .int .i64 0] else .tuple #[.agg #[.int .i64 0, .int .i64 0, .int .i64 0, .int .i64 0, .int .i64 0], .int .i64 50]
theorem decode_len (s : ByteArray) (w : World) (h : s.size ≠ 13) :
    Calls Tryd.prog 18 #[.string s] w fun e w' => e = .returned (decR s) ∧ Below w.heap.size w w' := by
  have hd : decR s = .tuple #[.agg #[.int .i64 0, .int .i64 0, .int .i64 0, .int .i64 0, .int .i64 0], .int .i64 50] := by unfold decR; rw [if_neg (fun q => h q.1)]
  rw [hd]
  clear hd
  have e1 : ((s.size : Int) != 13) = true := by simp; omega
  go_enter Tryd.func18, Tryd.ntmps18
  have HZ := Lib.hid (alloc_new w (.cells #[.int .i64 0, .int .i64 0, .int .i64 0, .int .i64 0, .int .i64 0] 52))
  go_wp2_with fail
  refine bodyPost_ret (v := .tuple #[.agg #[.int .i64 0, .int .i64 0, .int .i64 0, .int .i64 0, .int .i64 0], .int .i64 50]) (res_cell_tmp Tryd.results18 (by exact HZ.out) rfl Tryd.underlying52 rfl infoMsg) rfl ?_
  exact ⟨rfl, below_alloc (Below.refl _ _)⟩
set_option maxHeartbeats 8000000 in
theorem decode_13 (s : ByteArray) (w : World) (h : s.size = 13) :
    Calls Tryd.prog 18 #[.string s] w fun e w' => e = .returned (decR s) ∧ Below w.heap.size w w' := by
  have e1 : ((s.size : Int) != 13) = false := by simp; omega
  have hm : s.size ≤ 9223372036854775807 := by omega
  go_enter Tryd.func18, Tryd.ntmps18
  have HZ := Lib.hid (block_alloc (alloc_new w (.cells #[.int .i64 0, .int .i64 0, .int .i64 0, .int .i64 0, .int .i64 0] 52)) (.cells #[.int .i64 0, .int .i64 0, .int .i64 0, .int .i64 0, .int .i64 0] 118))
  have HG := Lib.hid (alloc_new' (w.alloc (.cells #[.int .i64 0, .int .i64 0, .int .i64 0, .int .i64 0, .int .i64 0] 52)) (.cells #[.int .i64 0, .int .i64 0, .int .i64 0, .int .i64 0, .int .i64 0] 118) (w.heap.size + 1) (by simp))
  have HB := Lib.hid (below_alloc (o := .cells #[.int .i64 0, .int .i64 0, .int .i64 0, .int .i64 0, .int .i64 0] 118) (below_alloc (o := .cells #[.int .i64 0, .int .i64 0, .int .i64 0, .int .i64 0, .int .i64 0] 52) (Below.refl w.heap.size w)))
  obtain ⟨x, hx⟩ : ∃ x, w.heap.size = x := ⟨_, rfl⟩
  rw [hx] at HZ HG
  have HXE := Lib.hid hx
  clear hx
  go_upto_region 4 with fail
  rw [HXE.out]
  generalize (w.alloc (.cells #[.int .i64 0, .int .i64 0, .int .i64 0, .int .i64 0, .int .i64 0] 52)).alloc (.cells #[.int .i64 0, .int .i64 0, .int .i64 0, .int .i64 0, .int .i64 0] 118) = w1 at *
  go_wp2_with fail
  go_loopw [5, 16] (fun a i wr => ∃ k : Nat, k ≤ 5 ∧ i = .int .i64 (k : Int) ∧ a = .int .i64 (offs k) ∧ wr.heap[x]? = some (.cells #[.int .i64 0, .int .i64 0, .int .i64 0, .int .i64 0, .int .i64 0] 52) ∧ wr.heap[x + 1]? = some (.cells (got s k) 118) ∧ Below w.heap.size w wr) (fun _ i _ => 5 - (Go.RowKit.intOf i).toNat)
  case atStart => exact ⟨0, Nat.zero_le _, rfl, rfl, HZ.out, HG.out, HB.out⟩
  case round =>
    clear HZ HG HB
    obtain ⟨k, hk, rfl, rfl, hZ, hG, hB⟩ := hrel
    have HZ := Lib.hid hZ; have HG := Lib.hid hG; have HB := Lib.hid hB; clear hZ hG hB
    obtain ⟨wx, rfl⟩ : ∃ wo : World, wo = wr := ⟨_, rfl⟩
    have hcase : k = 0 ∨ k = 1 ∨ k = 2 ∨ k = 3 ∨ k = 4 ∨ k = 5 := by omega
    rcases hcase with rfl | rfl | rfl | rfl | rfl | rfl
    · have hix : ∀ W, (Instr.index 118 (.agg #[.int .i64 1, .int .i64 4, .int .i64 2, .int .i64 4, .int .i64 2]) (.int .i64 0)).run Tryd.prog W = .ok (.int .i64 1) W := fun _ => by kernel_rfl
      have ho : offs 0 = 0 := rfl
      rw [ho]
      clear ho
      go_wp2_with fail
      refine (getv1 s 0 wx (by omega) (by omega) hm).mono ?_
      rintro e v1 ⟨rfl, hb1⟩
      have HZ1 := Lib.hid (bblock hb1 HZ.out); have HG1 := Lib.hid (bblock hb1 HG.out); have HB1 := Lib.hid (below_call HB.out hb1)
      clear hb1 HZ HG HB hix
      unfold got at HG1
      obtain ⟨⟨g0, g1, g2, g3, g4⟩, z0, z1, z2, z3, z4⟩ := cells5 HG1.out
      go_upto_region 12 with fail
      have HZ2 := Lib.hid (block_set_other (a := ⟨x + 1, 0, none⟩) (u := .int .i64 (num (bytesAt s 0 1))) HZ1.out (by show x + 1 ≠ x; omega))
      have HG2 : Hid ((World.setCell v1 ⟨x + 1, 0, none⟩ (.int .i64 (num (bytesAt s 0 1)))).heap[x + 1]? = some (.cells (got s 1) 118)) := Lib.hid (cells_eq (block_setCell (k := 0) (v := .int .i64 (num (bytesAt s 0 1))) HG1.out) (by simp [got]))
      have HB2 := Lib.hid (HB1.out.setCell (p := ⟨x + 1, 0, none⟩) (by have := HXE.out; show w.heap.size ≤ x + 1; omega) (.int .i64 (num (bytesAt s 0 1))))
      clear g0 g1 g2 g3 g4 z0 z1 z2 z3 z4 HZ1 HG1 HB1
      generalize World.setCell v1 ⟨x + 1, 0, none⟩ (.int .i64 (num (bytesAt s 0 1))) = v2 at *
      go_wp2_with fail
      go_roundw
      case rel => exact ⟨1, by omega, by go_num, by first | rfl | (simp [offs]), HZ2.out, HG2.out, HB2.out⟩
      case measure => simp [Go.RowKit.intOf]
    · have hix : ∀ W, (Instr.index 118 (.agg #[.int .i64 1, .int .i64 4, .int .i64 2, .int .i64 4, .int .i64 2]) (.int .i64 1)).run Tryd.prog W = .ok (.int .i64 4) W := fun _ => by kernel_rfl
      have ho : offs 1 = 1 := rfl
      rw [ho]
      clear ho
      go_wp2_with fail
      refine (getv4 s 1 wx (by omega) (by omega) hm).mono ?_
      rintro e v1 ⟨rfl, hb1⟩
      have HZ1 := Lib.hid (bblock hb1 HZ.out); have HG1 := Lib.hid (bblock hb1 HG.out); have HB1 := Lib.hid (below_call HB.out hb1)
      clear hb1 HZ HG HB hix
      unfold got at HG1
      obtain ⟨⟨g0, g1, g2, g3, g4⟩, z0, z1, z2, z3, z4⟩ := cells5 HG1.out
      go_upto_region 12 with fail
      have HZ2 := Lib.hid (block_set_other (a := ⟨x + 1, 1, none⟩) (u := .int .i64 (num (bytesAt s 1 4))) HZ1.out (by show x + 1 ≠ x; omega))
      have HG2 : Hid ((World.setCell v1 ⟨x + 1, 1, none⟩ (.int .i64 (num (bytesAt s 1 4)))).heap[x + 1]? = some (.cells (got s 2) 118)) := Lib.hid (cells_eq (block_setCell (k := 1) (v := .int .i64 (num (bytesAt s 1 4))) HG1.out) (by simp [got]))
      have HB2 := Lib.hid (HB1.out.setCell (p := ⟨x + 1, 1, none⟩) (by have := HXE.out; show w.heap.size ≤ x + 1; omega) (.int .i64 (num (bytesAt s 1 4))))
      clear g0 g1 g2 g3 g4 z0 z1 z2 z3 z4 HZ1 HG1 HB1
      generalize World.setCell v1 ⟨x + 1, 1, none⟩ (.int .i64 (num (bytesAt s 1 4))) = v2 at *
      go_wp2_with fail
      go_roundw
      case rel => exact ⟨2, by omega, by go_num, by first | rfl | (simp [offs]), HZ2.out, HG2.out, HB2.out⟩
      case measure => simp [Go.RowKit.intOf]
    · have hix : ∀ W, (Instr.index 118 (.agg #[.int .i64 1, .int .i64 4, .int .i64 2, .int .i64 4, .int .i64 2]) (.int .i64 2)).run Tryd.prog W = .ok (.int .i64 2) W := fun _ => by kernel_rfl
      have ho : offs 2 = 5 := rfl
      rw [ho]
      clear ho
      go_wp2_with fail
      refine (getv2 s 5 wx (by omega) (by omega) hm).mono ?_
      rintro e v1 ⟨rfl, hb1⟩
      have HZ1 := Lib.hid (bblock hb1 HZ.out); have HG1 := Lib.hid (bblock hb1 HG.out); have HB1 := Lib.hid (below_call HB.out hb1)
      clear hb1 HZ HG HB hix
      unfold got at HG1
      obtain ⟨⟨g0, g1, g2, g3, g4⟩, z0, z1, z2, z3, z4⟩ := cells5 HG1.out
      go_upto_region 12 with fail
      have HZ2 := Lib.hid (block_set_other (a := ⟨x + 1, 2, none⟩) (u := .int .i64 (num (bytesAt s 5 2))) HZ1.out (by show x + 1 ≠ x; omega))
      have HG2 : Hid ((World.setCell v1 ⟨x + 1, 2, none⟩ (.int .i64 (num (bytesAt s 5 2)))).heap[x + 1]? = some (.cells (got s 3) 118)) := Lib.hid (cells_eq (block_setCell (k := 2) (v := .int .i64 (num (bytesAt s 5 2))) HG1.out) (by simp [got]))
      have HB2 := Lib.hid (HB1.out.setCell (p := ⟨x + 1, 2, none⟩) (by have := HXE.out; show w.heap.size ≤ x + 1; omega) (.int .i64 (num (bytesAt s 5 2))))
      clear g0 g1 g2 g3 g4 z0 z1 z2 z3 z4 HZ1 HG1 HB1
      generalize World.setCell v1 ⟨x + 1, 2, none⟩ (.int .i64 (num (bytesAt s 5 2))) = v2 at *
      go_wp2_with fail
      go_roundw
      case rel => exact ⟨3, by omega, by go_num, by first | rfl | (simp [offs]), HZ2.out, HG2.out, HB2.out⟩
      case measure => simp [Go.RowKit.intOf]
    · have hix : ∀ W, (Instr.index 118 (.agg #[.int .i64 1, .int .i64 4, .int .i64 2, .int .i64 4, .int .i64 2]) (.int .i64 3)).run Tryd.prog W = .ok (.int .i64 4) W := fun _ => by kernel_rfl
      have ho : offs 3 = 7 := rfl
      rw [ho]
      clear ho
      go_wp2_with fail
      refine (getv4 s 7 wx (by omega) (by omega) hm).mono ?_
      rintro e v1 ⟨rfl, hb1⟩
      have HZ1 := Lib.hid (bblock hb1 HZ.out); have HG1 := Lib.hid (bblock hb1 HG.out); have HB1 := Lib.hid (below_call HB.out hb1)
      clear hb1 HZ HG HB hix
      unfold got at HG1
      obtain ⟨⟨g0, g1, g2, g3, g4⟩, z0, z1, z2, z3, z4⟩ := cells5 HG1.out
      go_upto_region 12 with fail
      have HZ2 := Lib.hid (block_set_other (a := ⟨x + 1, 3, none⟩) (u := .int .i64 (num (bytesAt s 7 4))) HZ1.out (by show x + 1 ≠ x; omega))
      have HG2 : Hid ((World.setCell v1 ⟨x + 1, 3, none⟩ (.int .i64 (num (bytesAt s 7 4)))).heap[x + 1]? = some (.cells (got s 4) 118)) := Lib.hid (cells_eq (block_setCell (k := 3) (v := .int .i64 (num (bytesAt s 7 4))) HG1.out) (by simp [got]))
      have HB2 := Lib.hid (HB1.out.setCell (p := ⟨x + 1, 3, none⟩) (by have := HXE.out; show w.heap.size ≤ x + 1; omega) (.int .i64 (num (bytesAt s 7 4))))
      clear g0 g1 g2 g3 g4 z0 z1 z2 z3 z4 HZ1 HG1 HB1
      generalize World.setCell v1 ⟨x + 1, 3, none⟩ (.int .i64 (num (bytesAt s 7 4))) = v2 at *
      go_wp2_with fail
      go_roundw
      case rel => exact ⟨4, by omega, by go_num, by first | rfl | (simp [offs]), HZ2.out, HG2.out, HB2.out⟩
      case measure => simp [Go.RowKit.intOf]
    · have hix : ∀ W, (Instr.index 118 (.agg #[.int .i64 1, .int .i64 4, .int .i64 2, .int .i64 4, .int .i64 2]) (.int .i64 4)).run Tryd.prog W = .ok (.int .i64 2) W := fun _ => by kernel_rfl
      have ho : offs 4 = 11 := rfl
      rw [ho]
      clear ho
      go_wp2_with fail
      refine (getv2 s 11 wx (by omega) (by omega) hm).mono ?_
      rintro e v1 ⟨rfl, hb1⟩
      have HZ1 := Lib.hid (bblock hb1 HZ.out); have HG1 := Lib.hid (bblock hb1 HG.out); have HB1 := Lib.hid (below_call HB.out hb1)
      clear hb1 HZ HG HB hix
      unfold got at HG1
      obtain ⟨⟨g0, g1, g2, g3, g4⟩, z0, z1, z2, z3, z4⟩ := cells5 HG1.out
      go_upto_region 12 with fail
      have HZ2 := Lib.hid (block_set_other (a := ⟨x + 1, 4, none⟩) (u := .int .i64 (num (bytesAt s 11 2))) HZ1.out (by show x + 1 ≠ x; omega))
      have HG2 : Hid ((World.setCell v1 ⟨x + 1, 4, none⟩ (.int .i64 (num (bytesAt s 11 2)))).heap[x + 1]? = some (.cells (got s 5) 118)) := Lib.hid (cells_eq (block_setCell (k := 4) (v := .int .i64 (num (bytesAt s 11 2))) HG1.out) (by simp [got]))
      have HB2 := Lib.hid (HB1.out.setCell (p := ⟨x + 1, 4, none⟩) (by have := HXE.out; show w.heap.size ≤ x + 1; omega) (.int .i64 (num (bytesAt s 11 2))))
      clear g0 g1 g2 g3 g4 z0 z1 z2 z3 z4 HZ1 HG1 HB1
      generalize World.setCell v1 ⟨x + 1, 4, none⟩ (.int .i64 (num (bytesAt s 11 2))) = v2 at *
      go_wp2_with fail
      go_roundw
      case rel => exact ⟨5, by omega, by go_num, by first | rfl | (simp [offs]), HZ2.out, HG2.out, HB2.out⟩
      case measure => simp [Go.RowKit.intOf]
    · have HA := Lib.hid (alloc_new wx (.cells #[.int .i64 (num (bytesAt s 0 1)), .int .i64 (num (bytesAt s 1 4)), .int .i64 (num (bytesAt s 5 2)), .int .i64 (num (bytesAt s 7 4)), .int .i64 (num (bytesAt s 11 2))] 52))
      unfold got at HG
      obtain ⟨⟨g0, g1, g2, g3, g4⟩, -⟩ := cells5 HG.out
      have HZ2 := Lib.hid (block_alloc HZ.out (.cells #[.int .i64 (num (bytesAt s 0 1)), .int .i64 (num (bytesAt s 1 4)), .int .i64 (num (bytesAt s 5 2)), .int .i64 (num (bytesAt s 7 4)), .int .i64 (num (bytesAt s 11 2))] 52))
      have HB2 := Lib.hid (below_alloc (o := .cells #[.int .i64 (num (bytesAt s 0 1)), .int .i64 (num (bytesAt s 1 4)), .int .i64 (num (bytesAt s 5 2)), .int .i64 (num (bytesAt s 7 4)), .int .i64 (num (bytesAt s 11 2))] 52) HB.out)
      have hxl := blk_lt HG.out
      obtain ⟨y, hy⟩ : ∃ y, wx.heap.size = y := ⟨_, rfl⟩
      rw [hy] at HA hxl
      have HYE := Lib.hid hy
      clear hy
      go_upto_region 15 with fail
      rw [HYE.out]
      generalize wx.alloc (.cells #[.int .i64 (num (bytesAt s 0 1)), .int .i64 (num (bytesAt s 1 4)), .int .i64 (num (bytesAt s 5 2)), .int .i64 (num (bytesAt s 7 4)), .int .i64 (num (bytesAt s 11 2))] 52) = w3 at *
      clear g0 g1 g2 g3 g4
      obtain ⟨⟨m0, m1, m2, m3, m4⟩, -⟩ := cells5 HA.out
      go_wp2_with fail
      refine (valid_any _ _ _ _ _ w3).mono ?_
      rintro e w4 ⟨rfl, hb4⟩
      rw [show (⟨(num (bytesAt s 0 1)), (num (bytesAt s 1 4)), (num (bytesAt s 5 2)), (num (bytesAt s 7 4)), (num (bytesAt s 11 2))⟩ : Am) = msgOf s from rfl]
      have HZ4 := Lib.hid (bblock hb4 HZ2.out); have HA4 := Lib.hid (bblock hb4 HA.out); have HB4 := Lib.hid (below_call HB2.out hb4)
      clear m0 m1 m2 m3 m4 hb4 HZ2 HA HB2
      obtain ⟨b, hb⟩ : ∃ b, (msgOf s).okB = b := ⟨_, rfl⟩
      rw [hb]
      have HD : Hid (decR s = if b = true then .tuple #[.agg #[.int .i64 (num (bytesAt s 0 1)), .int .i64 (num (bytesAt s 1 4)), .int .i64 (num (bytesAt s 5 2)), .int .i64 (num (bytesAt s 7 4)), .int .i64 (num (bytesAt s 11 2))], .int .i64 0] else .tuple #[.agg #[.int .i64 0, .int .i64 0, .int .i64 0, .int .i64 0, .int .i64 0], .int .i64 50]) := Lib.hid (by unfold decR; rw [hb]; simp [h])
      clear hb
      have hzx : x < y := by omega
      cases b with
      | false =>
        obtain ⟨⟨z0, z1, z2, z3, z4⟩, f0, f1, f2, f3, f4⟩ := cells5 HZ4.out
        go_wp2_with fail
        have HR := Lib.hid (stN_all [.int .i64 0, .int .i64 0, .int .i64 0, .int .i64 0, .int .i64 0] HZ4.out rfl)
        refine bodyPost_ret (v := .tuple #[.agg #[.int .i64 0, .int .i64 0, .int .i64 0, .int .i64 0, .int .i64 0], .int .i64 50]) (res_cell_tmp Tryd.results18 (by exact HR.out) rfl Tryd.underlying52 rfl infoMsg) rfl ?_
        exact ⟨by rw [HD.out]; rfl, stN_below (B := x) (by have := HXE.out; omega) [.int .i64 0, .int .i64 0, .int .i64 0, .int .i64 0, .int .i64 0] _ 0 HB4.out⟩
      | true =>
        obtain ⟨⟨z0, z1, z2, z3, z4⟩, f0, f1, f2, f3, f4⟩ := cells5 HZ4.out
        obtain ⟨⟨m0, m1, m2, m3, m4⟩, -⟩ := cells5 HA4.out
        go_wp2_with fail
        have HR := Lib.hid (stN_all [.int .i64 (num (bytesAt s 0 1)), .int .i64 (num (bytesAt s 1 4)), .int .i64 (num (bytesAt s 5 2)), .int .i64 (num (bytesAt s 7 4)), .int .i64 (num (bytesAt s 11 2))] HZ4.out rfl)
        refine bodyPost_ret (v := .tuple #[.agg #[.int .i64 (num (bytesAt s 0 1)), .int .i64 (num (bytesAt s 1 4)), .int .i64 (num (bytesAt s 5 2)), .int .i64 (num (bytesAt s 7 4)), .int .i64 (num (bytesAt s 11 2))], .int .i64 0]) (res_cell_tmp Tryd.results18 (by exact HR.out) rfl Tryd.underlying52 rfl infoMsg) rfl ?_
        exact ⟨by rw [HD.out]; rfl, stN_below (B := x) (by have := HXE.out; omega) [.int .i64 (num (bytesAt s 0 1)), .int .i64 (num (bytesAt s 1 4)), .int .i64 (num (bytesAt s 5 2)), .int .i64 (num (bytesAt s 7 4)), .int .i64 (num (bytesAt s 11 2))] _ 0 HB4.out⟩
end Go.Proofs.YtmgjcjacoegocaaDoor.Ar
