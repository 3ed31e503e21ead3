/-
  IP datagrams: header, decode (several texts in one).
-/
import Derived.Test.YtloialpcdedekaaDoorBase2
import Derived.Test.YtloialpcdedekaaDoorPlain
import Derived.Test.YtloialpcdedekaaDoorIpValid
import Derived.Deep.DeepCutAuto
import Derived.Laws.Rows
import Derived.Outline
import Derived.Deep.RegionHeld3
import Derived.Deep.RegionWith
import Derived.Deep.QuietTactic
import Derived.BigQuiet
import Derived.Deep.DrawnRows
import Derived.BigGuardPart
import Derived.Test.YtloialpcdedekaaDoorFrag0
namespace Go.Proofs.YtloialpcdedekaaDoor.Ip
set_option maxRecDepth 100000
open Go.RowKit Go.Proofs.YtloialpcdedekaaDoor.Wire

def flagsOf (df mf : Bool) : Int := (if df then 1 else 0) + (if mf then 2 else 0)
theorem flagsOf_bd (df mf : Bool) : 0 ≤ flagsOf df mf ∧ flagsOf df mf ≤ 3 := by cases df <;> cases mf <;> decide
def parts (f t pr ttl id fl off len : Int) : List (List UInt8) := [be 1 4, be 4 f, be 4 t, be 1 pr, be 1 ttl, be 2 id, be 1 fl, be 2 (off / 8), be 2 len]
def front (f t pr ttl id : Int) (df mf : Bool) (off len : Int) : List UInt8 := (parts f t pr ttl id (flagsOf df mf) off len).flatten
def hdr (f t pr ttl id : Int) (df mf : Bool) (off len : Int) : List UInt8 := front f t pr ttl id df mf off len ++ be 2 (csum ⟨(front f t pr ttl id df mf off len ++ [0, 0]).toArray⟩)

theorem ret2_str {a b : ByteArray} {v : Value} (h : a = b) : Ending.returned (.tuple #[.string a, v]) = .returned (.tuple #[.string b, v]) := by rw [h]
theorem ba_append_s (l : List UInt8) (s : ByteArray) : (⟨l.toArray⟩ : ByteArray) ++ s = ⟨(l ++ s.data.toList).toArray⟩ := by
  apply ByteArray.ext
  simp [ByteArray.data_append]
theorem csum_bd (s : ByteArray) : 0 ≤ csum s ∧ csum s ≤ 65535 := by
  have h := total_bd s ((s.size + 1) / 2)
  unfold csum wsum fold
  split <;> omega
theorem ba_append2 (l : List UInt8) : (⟨l.toArray⟩ : ByteArray) ++ ⟨#[0, 0]⟩ = ⟨(l ++ [0, 0]).toArray⟩ := ba_append l [0, 0]
theorem parts_len (f t pr ttl id fl off len : Int) (k : Nat) : ((parts f t pr ttl id fl off len).take k).flatten.length ≤ 18 := by
  have h : (parts f t pr ttl id fl off len).flatten.length = 18 := by simp [parts, be_length]
  have h2 := congrArg List.flatten (List.take_append_drop k (parts f t pr ttl id fl off len))
  rw [List.flatten_append] at h2
  have h3 := congrArg List.length h2
  rw [List.length_append, h] at h3
  omega
theorem idx9 (f t pr ttl id fl off len : Int) (h1 : 0 ≤ f ∧ f < 4294967296) (h2 : 0 ≤ t ∧ t < 4294967296) (h3 : 0 ≤ pr ∧ pr < 256) (h4 : 0 ≤ ttl ∧ ttl < 256) (h5 : 0 ≤ id ∧ id < 65536) (h6 : 0 ≤ fl ∧ fl < 256) (h7 : 0 ≤ off / 8 ∧ off / 8 < 65536) (h8 : 0 ≤ len ∧ len < 65536) (k : Nat) (hk : k < 9) :
    ∃ n b : Int, (∀ W, (Instr.index 118 (.agg #[.int .i64 4, .int .i64 1, .int .i64 f, .int .i64 4, .int .i64 t, .int .i64 4, .int .i64 pr, .int .i64 1, .int .i64 ttl, .int .i64 1, .int .i64 id, .int .i64 2, .int .i64 fl, .int .i64 1, .int .i64 (off / 8), .int .i64 2, .int .i64 len, .int .i64 2]) (.int .i64 (k : Int))).run Tryd.prog W = .ok (.agg #[.int .i64 n, .int .i64 b]) W) ∧ 1 ≤ b ∧ b ≤ 4 ∧ 0 ≤ n ∧ n < 256 ^ b.toNat ∧
      ((parts f t pr ttl id fl off len).take (k + 1)).flatten = ((parts f t pr ttl id fl off len).take k).flatten ++ be b.toNat n := by
  match k, hk with
  | 0, _ => exact ⟨4, 1, fun _ => by kernel_rfl, by omega, by omega, by omega, by simp, by simp [parts]⟩
  | 1, _ => exact ⟨f, 4, fun _ => by kernel_rfl, by omega, by omega, by omega, by simp; omega, by simp [parts]⟩
  | 2, _ => exact ⟨t, 4, fun _ => by kernel_rfl, by omega, by omega, by omega, by simp; omega, by simp [parts]⟩
  | 3, _ => exact ⟨pr, 1, fun _ => by kernel_rfl, by omega, by omega, by omega, by simp; omega, by simp [parts]⟩
  | 4, _ => exact ⟨ttl, 1, fun _ => by kernel_rfl, by omega, by omega, by omega, by simp; omega, by simp [parts]⟩
  | 5, _ => exact ⟨id, 2, fun _ => by kernel_rfl, by omega, by omega, by omega, by simp; omega, by simp [parts]⟩
  | 6, _ => exact ⟨fl, 1, fun _ => by kernel_rfl, by omega, by omega, by omega, by simp; omega, by simp [parts]⟩
  | 7, _ => exact ⟨off / 8, 2, fun _ => by kernel_rfl, by omega, by omega, by omega, by simp; omega, by simp [parts]⟩
  | 8, _ => exact ⟨len, 2, fun _ => by kernel_rfl, by omega, by omega, by omega, by simp; omega, by simp [parts]⟩

set_option maxRecDepth 100000 in
set_option maxHeartbeats 4000000 in
theorem header_ok (f t pr ttl id : Int) (df mf : Bool) (off : Int) (s : ByteArray) (len : Int) (w : World) (h0 : 0 ≤ len) (h : VLen f t pr ttl id df mf off len) :
    Calls Tryd.prog 44 #[.agg #[.int .i64 f, .int .i64 t, .int .i64 pr, .int .i64 ttl, .int .i64 id, .bool df, .bool mf, .int .i64 off, .string s], .int .i64 len] w fun e w' => e = .returned (.string ⟨(hdr f t pr ttl id df mf off len).toArray⟩) ∧ Below w.heap.size w w' := by
  have HV : Hid (∀ w, Calls Tryd.prog 43 #[.agg #[.int .i64 f, .int .i64 t, .int .i64 pr, .int .i64 ttl, .int .i64 id, .bool df, .bool mf, .int .i64 off, .string s], .int .i64 len] w fun e w' => e = .returned (.bool true) ∧ Below w.heap.size w w') := Lib.hid fun w => by
    have := validLength_any f t pr ttl id df mf off s len w h0 (by unfold VLen at h; omega)
    rwa [show vlenB f t pr ttl id df mf off len = true from decide_eq_true h] at this
  obtain ⟨⟨a1, a2, a3, a4⟩, ⟨a5, a6, a7, a8, a9, a10⟩, ⟨a11, a12, a13, a14⟩, -, -, -⟩ := h
  go_enter Tryd.func44, Tryd.ntmps44
  have HB := Below.refl w.heap.size w
  have Hp := Lib.hid (alloc_new' w (.cells #[.int .i64 f, .int .i64 t, .int .i64 pr, .int .i64 ttl, .int .i64 id, .bool df, .bool mf, .int .i64 off, .string s] 37) (w.heap.size) (by simp))
  have HB' := below_alloc (o := .cells #[.int .i64 f, .int .i64 t, .int .i64 pr, .int .i64 ttl, .int .i64 id, .bool df, .bool mf, .int .i64 off, .string s] 37) HB; clear HB; have HB := HB'; clear HB'
  go_wp2_with fail
  refine (HV.out _).mono ?_
  rintro e w1 ⟨rfl, hb⟩
  have Hp' := Lib.hid (bblock hb Hp.out); clear Hp; have Hp := Hp'; clear Hp'
  have HB' := below_call HB hb; clear HB hb; have HB := HB'; clear HB'; have hz1 := HB.size
  have Sp := cells9 Hp.out
  obtain ⟨⟨qp0, qp1, qp2, qp3, qp4, qp5, qp6, qp7, qp8⟩, zp0, zp1, zp2, zp3, zp4, zp5, zp6, zp7, zp8⟩ := Sp
  have lt_p := blk_lt Hp.out
  go_upto_if 20 with fail
  go_cut [5] (fun s5 wx => s5 = .int .i64 (if df then 1 else 0) ∧ w1 = wx)
  case first =>
    cases df <;> (go_wp2_with fail; go_meet; exact ⟨rfl, rfl⟩)
  case rest =>
    obtain ⟨rfl, rfl⟩ := hcut
    go_upto_if 24 with fail
    go_cut [5] (fun s5 wx => s5 = .int .i64 (flagsOf df mf) ∧ w1 = wx)
    case first =>
      cases df <;> cases mf <;> (go_wp2_with fail; go_meet; exact ⟨rfl, rfl⟩)
    case rest =>
      obtain ⟨rfl, rfl⟩ := hcut
      have hfl := flagsOf_bd df mf; have hq8a : 0 ≤ off / 8 := (by omega); have hq8b : off / 8 ≤ 500 := (by omega)
      generalize hflq : flagsOf df mf = fl at *; have Hfl := Lib.hid hflq; clear hflq
      go_upto_region 8 with fail
      go_cut [6] (fun s6 wx => s6 = .pointer (some ⟨w1.heap.size, 0, none⟩) ∧ wx = w1.alloc (.cells #[.int .i64 4, .int .i64 1, .int .i64 f, .int .i64 4, .int .i64 t, .int .i64 4, .int .i64 pr, .int .i64 1, .int .i64 ttl, .int .i64 1, .int .i64 id, .int .i64 2, .int .i64 fl, .int .i64 1, .int .i64 (off / 8), .int .i64 2, .int .i64 len, .int .i64 2] 118))
      case first =>
        go_wp2_with fail
        go_meet
        exact ⟨rfl, rfl⟩
      case rest =>
        obtain ⟨rfl, rfl⟩ := hcut
        clear qp0 zp0 qp1 zp1 qp2 zp2 qp3 zp3 qp4 zp4 qp5 zp5 qp6 zp6 qp7 zp7 qp8 zp8
        clear Hp lt_p
        have Ha := Lib.hid (alloc_new' w1 (.cells #[.int .i64 4, .int .i64 1, .int .i64 f, .int .i64 4, .int .i64 t, .int .i64 4, .int .i64 pr, .int .i64 1, .int .i64 ttl, .int .i64 1, .int .i64 id, .int .i64 2, .int .i64 fl, .int .i64 1, .int .i64 (off / 8), .int .i64 2, .int .i64 len, .int .i64 2] 118) (w1.heap.size) (by simp))
        have HB' := below_alloc (o := .cells #[.int .i64 4, .int .i64 1, .int .i64 f, .int .i64 4, .int .i64 t, .int .i64 4, .int .i64 pr, .int .i64 1, .int .i64 ttl, .int .i64 1, .int .i64 id, .int .i64 2, .int .i64 fl, .int .i64 1, .int .i64 (off / 8), .int .i64 2, .int .i64 len, .int .i64 2] 118) HB; clear HB; have HB := HB'; clear HB'
        generalize hw2 : w1.alloc (.cells #[.int .i64 4, .int .i64 1, .int .i64 f, .int .i64 4, .int .i64 t, .int .i64 4, .int .i64 pr, .int .i64 1, .int .i64 ttl, .int .i64 1, .int .i64 id, .int .i64 2, .int .i64 fl, .int .i64 1, .int .i64 (off / 8), .int .i64 2, .int .i64 len, .int .i64 2] 118) = w2 at *; clear hw2
        go_wp2_with (refine wpList_load_row rfl 118 (.tmp 6) rfl w1.heap.size rfl 118 #[.int .i64 4, .int .i64 1, .int .i64 f, .int .i64 4, .int .i64 t, .int .i64 4, .int .i64 pr, .int .i64 1, .int .i64 ttl, .int .i64 1, .int .i64 id, .int .i64 2, .int .i64 fl, .int .i64 1, .int .i64 (off / 8), .int .i64 2, .int .i64 len, .int .i64 2] (0, 0) _ (block_alloc Ha.out _) Tryd.underlying118 rfl (by kernel_rfl) ?_)
        have HB2 := below_alloc (o := .cells #[.pointer none, .slice none 0 0] 80) HB
        have hsz2 := HB.size
        go_loopw [53] (fun i wr => ∃ k : Nat, k ≤ 9 ∧ i = .int .i64 (k : Int) ∧ IsB w2.heap.size w2.heap.size ((parts f t pr ttl id fl off len).take k).flatten wr ∧ Below w.heap.size w wr) (fun i _ => 9 - (intOf i).toNat)
        case atStart => exact ⟨0, by omega, rfl, isB_new w2, HB2⟩
        case round =>
          clear HB HB2 Ha
          obtain ⟨k, hk, rfl, HI, HB⟩ := hrel
          have HI := Lib.hid HI
          have hlen := parts_len f t pr ttl id fl off len k
          by_cases hlt : k < 9
          · obtain ⟨n, b, hidx, hb1, hb4, hn0, hn, hH⟩ := idx9 f t pr ttl id fl off len (by omega) (by omega) (by omega) (by omega) (by omega) (by omega) (by omega) (by omega) k hlt
            have HH := Lib.hid hH; have HN := Lib.hid hn; clear hH hn
            generalize ((parts f t pr ttl id fl off len).take k).flatten = L at *
            go_wp2_with fail
            refine (put_okI n b _ hb1 hb4 hn0 HN.out).mono ?_
            rintro e w3 ⟨rfl, hb⟩
            have HI' := isB_below (isB_alloc HI.out _) hb; have HB' := below_call (below_alloc HB) hb; clear HI HB hb
            have HI := Lib.hid HI'; clear HI'
            clear hidx
            go_wp2_with fail
            have hbl := be_length b.toNat n
            refine (bwrite_any _ _ L _ _ HI.out (by rw [sz, hbl]; omega)).mono ?_
            rintro e w4 ⟨rfl, HJ, hb⟩
            have HJ := Lib.hid HJ; have HB := HB'.trans (hb.mono hsz2); clear HB' hb HI hbl
            go_wp2_with fail
            go_roundw
            case rel => exact ⟨k + 1, by omega, by go_num, by rw [HH.out]; exact HJ.out, HB⟩
            case measure => simp [intOf]; omega
          · obtain rfl : k = 9 := by omega
            have HF : Hid (((parts f t pr ttl id fl off len).take 9).flatten = front f t pr ttl id df mf off len) := Lib.hid (by unfold front; rw [Hfl.out]; rfl)
            generalize ((parts f t pr ttl id fl off len).take 9).flatten = L at *
            go_wp2_with fail
            refine (bstring_any _ _ L _ HI.out).mono ?_
            rintro e w3 ⟨rfl, hb⟩
            have HB' := HB.trans (hb.mono hsz2); clear HB hb HI
            go_wp2_with fail
            refine (checksum_any _ (by simp [ByteArray.size_append, sz]; omega) _).mono ?_
            rintro e w4 ⟨rfl, hb⟩
            have HB := below_call HB' hb; clear HB' hb
            have hcb := csum_bd (⟨L.toArray⟩ ++ ⟨#[0, 0]⟩)
            generalize hcs : csum (⟨L.toArray⟩ ++ ⟨#[0, 0]⟩) = c at *; have Hcs := Lib.hid hcs; clear hcs
            go_wp2_with fail
            refine (put_okI c 2 _ (by omega) (by omega) (by omega) (by simp; omega)).mono ?_
            rintro e w5 ⟨rfl, hb⟩
            have HB' := below_call HB hb; clear HB hb
            have hbl := be_length
            go_wp2_with fail
            go_ret
            refine ⟨ret_str ?_, HB'⟩
            rw [ba_append]
            unfold hdr; rw [← HF.out, ← Hcs.out, ba_append2]

theorem header_no (f t pr ttl id : Int) (df mf : Bool) (off : Int) (s : ByteArray) (len : Int) (w : World) (h0 : 0 ≤ len) (h1 : len ≤ 9223372036854775807) (h : ¬ VLen f t pr ttl id df mf off len) :
    Calls Tryd.prog 44 #[.agg #[.int .i64 f, .int .i64 t, .int .i64 pr, .int .i64 ttl, .int .i64 id, .bool df, .bool mf, .int .i64 off, .string s], .int .i64 len] w fun e w' => e = .returned (.string ⟨#[]⟩) ∧ Below w.heap.size w w' := by
  have HV : Hid (∀ w, Calls Tryd.prog 43 #[.agg #[.int .i64 f, .int .i64 t, .int .i64 pr, .int .i64 ttl, .int .i64 id, .bool df, .bool mf, .int .i64 off, .string s], .int .i64 len] w fun e w' => e = .returned (.bool false) ∧ Below w.heap.size w w') := Lib.hid fun w => by
    have := validLength_any f t pr ttl id df mf off s len w h0 h1
    rwa [show vlenB f t pr ttl id df mf off len = false from decide_eq_false h] at this
  clear h
  go_enter Tryd.func44, Tryd.ntmps44
  go_wp2_with fail
  refine (HV.out _).mono ?_
  rintro e w1 ⟨rfl, hb1⟩
  go_wp2_with fail
  go_ret
  exact ⟨rfl, below_call (below_alloc (Below.refl _ _)) hb1⟩

theorem front_length (f t pr ttl id : Int) (df mf : Bool) (off len : Int) : (front f t pr ttl id df mf off len).length = 18 := by simp [front, parts, be_length]
theorem hdr_length (f t pr ttl id : Int) (df mf : Bool) (off len : Int) : (hdr f t pr ttl id df mf off len).length = 20 := by
  unfold hdr; rw [List.length_append, front_length, be_length]
set_option maxRecDepth 100000 in
theorem Encode_ok (f t pr ttl id : Int) (df mf : Bool) (off : Int) (s : ByteArray) (w : World) (h : VLen f t pr ttl id df mf off s.size) :
    Calls Tryd.prog 25 #[.agg #[.int .i64 f, .int .i64 t, .int .i64 pr, .int .i64 ttl, .int .i64 id, .bool df, .bool mf, .int .i64 off, .string s]] w fun e w' => e = .returned (.tuple #[.string ⟨(hdr f t pr ttl id df mf off s.size ++ s.data.toList).toArray⟩, .int .i64 0]) ∧ Below w.heap.size w w' := by
  have HH := Lib.hid fun w => header_ok f t pr ttl id df mf off s s.size w (by omega) h
  have hs : s.size ≤ 4000 := by unfold VLen at h; omega
  have hl := hdr_length f t pr ttl id df mf off s.size
  clear h
  generalize hR : hdr f t pr ttl id df mf off s.size = R at *
  have hRl : R.length ≤ 20 := by omega
  have hR1 : 1 ≤ R.length := by omega
  have hRe : R.isEmpty = false := by cases R <;> simp_all
  have hRn : (R == []) = false := by cases R <;> simp_all
  clear hR hl
  go_enter Tryd.func25, Tryd.ntmps25
  have HB := Below.refl w.heap.size w
  have Hp := Lib.hid (alloc_new' w (.cells #[.int .i64 f, .int .i64 t, .int .i64 pr, .int .i64 ttl, .int .i64 id, .bool df, .bool mf, .int .i64 off, .string s] 37) (w.heap.size) (by simp))
  have HB' := below_alloc (o := .cells #[.int .i64 f, .int .i64 t, .int .i64 pr, .int .i64 ttl, .int .i64 id, .bool df, .bool mf, .int .i64 off, .string s] 37) HB; clear HB; have HB := HB'; clear HB'
  go_wp2_with fail
  refine (HH.out _).mono ?_
  rintro e w1 ⟨rfl, hb⟩
  have Hp' := Lib.hid (bblock hb Hp.out); clear Hp; have Hp := Hp'; clear Hp'
  have HB' := below_call HB hb; clear HB hb; have HB := HB'; clear HB'; have hz1 := HB.size
  have Sp := cells9 Hp.out
  obtain ⟨⟨qp0, qp1, qp2, qp3, qp4, qp5, qp6, qp7, qp8⟩, zp0, zp1, zp2, zp3, zp4, zp5, zp6, zp7, zp8⟩ := Sp
  have lt_p := blk_lt Hp.out
  go_wp2_with fail
  go_ret2
  refine ⟨ret2_str ?_, HB⟩
  exact ba_append_s R s

theorem Encode_no (f t pr ttl id : Int) (df mf : Bool) (off : Int) (s : ByteArray) (w : World) (hs : s.size ≤ 9223372036854775807) (h : ¬ VLen f t pr ttl id df mf off s.size) :
    Calls Tryd.prog 25 #[.agg #[.int .i64 f, .int .i64 t, .int .i64 pr, .int .i64 ttl, .int .i64 id, .bool df, .bool mf, .int .i64 off, .string s]] w fun e w' => e = .returned (.tuple #[.string ⟨#[]⟩, .int .i64 60]) ∧ Below w.heap.size w w' := by
  have HH := Lib.hid fun w => header_no f t pr ttl id df mf off s s.size w (by omega) (by omega) h
  clear h
  go_enter Tryd.func25, Tryd.ntmps25
  go_wp2_with fail
  refine (HH.out _).mono ?_
  rintro e w1 ⟨rfl, hb1⟩
  go_wp2_with fail
  go_ret2
  exact ⟨rfl, below_call (below_alloc (Below.refl _ _)) hb1⟩
end Go.Proofs.YtloialpcdedekaaDoor.Ip

namespace Go.Proofs.YtloialpcdedekaaDoor.Ip
set_option maxRecDepth 100000
open Go.RowKit Go.Proofs.YtloialpcdedekaaDoor.Wire

theorem get_okI (s : ByteArray) (a k : Int) (w : World) (h1 : 1 ≤ k) (h4 : k ≤ 4) (h0 : 0 ≤ a) (ha : a + k ≤ s.size) (hm : s.size ≤ 9223372036854775807) :
    Calls Tryd.prog 13 #[.string s, .int .i64 a, .int .i64 k] w fun e w' => e = .returned (.tuple #[.int .i64 (num (bytesAt s a.toNat k.toNat)), .int .i64 0]) ∧ Below w.heap.size w w' := by
  have hb : k = 1 ∨ k = 2 ∨ k = 3 ∨ k = 4 := by omega
  rcases hb with rfl | rfl | rfl | rfl
  · exact getv1 s a w h0 ha hm
  · exact getv2 s a w h0 ha hm
  · exact getv3 s a w h0 ha hm
  · exact getv4 s a w h0 ha hm
theorem get_noI (s : ByteArray) (a k : Int) (w : World) (hm : s.size ≤ 9223372036854775807) (h : ¬ (1 ≤ k ∧ k ≤ 4 ∧ 0 ≤ a ∧ a + k ≤ s.size)) :
    Calls Tryd.prog 13 #[.string s, .int .i64 a, .int .i64 k] w fun e w' => e = .returned (.tuple #[.int .i64 0, .int .i64 10]) ∧ Below w.heap.size w w' :=
  (get_no s a k w hm h).mono fun _ _ ⟨he, hw⟩ => ⟨he, hw ▸ Below.refl _ _⟩

set_option maxRecDepth 100000 in
set_option maxHeartbeats 1000000 in
theorem number_ok (B : Nat) (s : ByteArray) (a k : Int) (sh : Bool) (v3 v4 v5 v6 v7 v8 v9 v10 v11 v12 : Value) (w : World) (hB : w.heap[B]? = some (.cells #[.string s, .int .i64 a, .bool sh, v3, v4, v5, v6, v7, v8, v9, v10, v11, v12] 112)) (h0 : 0 ≤ a) (h1 : 1 ≤ k) (h4 : k ≤ 4) (hk : a + k ≤ s.size) (hs : s.size ≤ 9223372036854775807) :
    Calls Tryd.prog 63 #[.pointer (some ⟨B, 0, none⟩), .int .i64 k] w fun e w' => e = .returned (.int .i64 (num (bytesAt s a.toNat k.toNat))) ∧ w'.heap[B]? = some (.cells #[.string s, .int .i64 (a + k), .bool sh, v3, v4, v5, v6, v7, v8, v9, v10, v11, v12] 112) ∧ w.grownBy w' (some B) := by
  have HG := Lib.hid fun w => get_okI s a k w (by omega) (by omega) (by omega) (by omega) hs
  generalize num (bytesAt s a.toNat k.toNat) = N at *
  have Hd := Lib.hid hB; clear hB
  go_enter Tryd.func63, Tryd.ntmps63
  have HB := only_refl w B
  go_wp2_with fail
  go_region_held3 (fun w' => w'.cell? ⟨B, 0, none⟩ = some (.string s) ∧ w'.cell? ⟨B, 1, none⟩ = some (.int .i64 a) ∧ w'.heap[B]? = some (.cells #[.string s, .int .i64 a, .bool sh, v3, v4, v5, v6, v7, v8, v9, v10, v11, v12] 112) ∧ World.grownBy w w' (some (B))) (first | exact ⟨(cell_of_block Hd.out rfl).1, (cell_of_block Hd.out rfl).1, Hd.out, only_drew HB⟩ | (go_split_ands; exact ⟨by assumption, by assumption, by assumption, by assumption⟩) | (go_split_ands; exact ⟨bcell (by assumption) (by assumption), bcell (by assumption) (by assumption), bblock (by assumption) (by assumption), only_call (by assumption) (by assumption)⟩) | (go_split_ands; exact ⟨cell_alloc' _ (by assumption), cell_alloc' _ (by assumption), block_alloc (by assumption) _, only_alloc (by assumption)⟩))
    (first | (go_at_call 13; refine (HG.out _).mono ?_; rintro e w1 ⟨rfl, hb1⟩))
  rename_i hH
  obtain ⟨k0_, k1_, k2_, HB'⟩ := hH
  clear Hd; have Hd := Lib.hid k2_
  clear k0_ k1_ k2_
  clear HB; have HB := HB'; clear HB'
  have hz := HB.size
  have qd0 := (cell_of_block (k := 0) Hd.out rfl).1; have zd0 := (cell_of_block (k := 0) Hd.out rfl).2
  have qd1 := (cell_of_block (k := 1) Hd.out rfl).1; have zd1 := (cell_of_block (k := 1) Hd.out rfl).2
  have qd2 := (cell_of_block (k := 2) Hd.out rfl).1; have zd2 := (cell_of_block (k := 2) Hd.out rfl).2
  have lt_d := blk_lt Hd.out
  go_wp2_with fail
  go_ret
  exact ⟨rfl, block_setCell (k := 1) Hd.out, only_set HB (.inl rfl) _⟩

set_option maxRecDepth 100000 in
set_option maxHeartbeats 1000000 in
theorem number_no (B : Nat) (s : ByteArray) (a k : Int) (sh : Bool) (v3 v4 v5 v6 v7 v8 v9 v10 v11 v12 : Value) (w : World) (hB : w.heap[B]? = some (.cells #[.string s, .int .i64 a, .bool sh, v3, v4, v5, v6, v7, v8, v9, v10, v11, v12] 112)) (hs : s.size ≤ 9223372036854775807) (hno : ¬ (1 ≤ k ∧ k ≤ 4 ∧ 0 ≤ a ∧ a + k ≤ s.size)) :
    Calls Tryd.prog 63 #[.pointer (some ⟨B, 0, none⟩), .int .i64 k] w fun e w' => e = .returned (.int .i64 0) ∧ w'.heap[B]? = some (.cells #[.string s, .int .i64 a, .bool true, v3, v4, v5, v6, v7, v8, v9, v10, v11, v12] 112) ∧ w.grownBy w' (some B) := by
  have HG := Lib.hid fun w => get_noI s a k w hs hno; clear hno
  have Hd := Lib.hid hB; clear hB
  go_enter Tryd.func63, Tryd.ntmps63
  have HB := only_refl w B
  go_wp2_with fail
  go_region_held3 (fun w' => w'.cell? ⟨B, 0, none⟩ = some (.string s) ∧ w'.cell? ⟨B, 1, none⟩ = some (.int .i64 a) ∧ w'.heap[B]? = some (.cells #[.string s, .int .i64 a, .bool sh, v3, v4, v5, v6, v7, v8, v9, v10, v11, v12] 112) ∧ World.grownBy w w' (some (B))) (first | exact ⟨(cell_of_block Hd.out rfl).1, (cell_of_block Hd.out rfl).1, Hd.out, only_drew HB⟩ | (go_split_ands; exact ⟨by assumption, by assumption, by assumption, by assumption⟩) | (go_split_ands; exact ⟨bcell (by assumption) (by assumption), bcell (by assumption) (by assumption), bblock (by assumption) (by assumption), only_call (by assumption) (by assumption)⟩) | (go_split_ands; exact ⟨cell_alloc' _ (by assumption), cell_alloc' _ (by assumption), block_alloc (by assumption) _, only_alloc (by assumption)⟩))
    (first | (go_at_call 13; refine (HG.out _).mono ?_; rintro e w1 ⟨rfl, hb1⟩))
  rename_i hH
  obtain ⟨k0_, k1_, k2_, HB'⟩ := hH
  clear Hd; have Hd := Lib.hid k2_
  clear k0_ k1_ k2_
  clear HB; have HB := HB'; clear HB'
  have hz := HB.size
  have qd0 := (cell_of_block (k := 0) Hd.out rfl).1; have zd0 := (cell_of_block (k := 0) Hd.out rfl).2
  have qd1 := (cell_of_block (k := 1) Hd.out rfl).1; have zd1 := (cell_of_block (k := 1) Hd.out rfl).2
  have qd2 := (cell_of_block (k := 2) Hd.out rfl).1; have zd2 := (cell_of_block (k := 2) Hd.out rfl).2
  have lt_d := blk_lt Hd.out
  go_wp2_with fail
  go_ret
  exact ⟨rfl, block_setCell (k := 2) Hd.out, only_set HB (.inl rfl) _⟩

theorem rest_any (B : Nat) (s : ByteArray) (a : Nat) (sh : Value) (v3 v4 v5 v6 v7 v8 v9 v10 v11 v12 : Value) (w : World) (hB : w.heap[B]? = some (.cells #[.string s, .int .i64 (a : Int), sh, v3, v4, v5, v6, v7, v8, v9, v10, v11, v12] 112)) (ha : a ≤ s.size) (_hs : s.size ≤ 9223372036854775807) :
    Calls Tryd.prog 51 #[.pointer (some ⟨B, 0, none⟩)] w fun e w' => e = .returned (.string (s.extract a s.size)) ∧ Below w.heap.size w w' := by
  have b1 : (0 : Int) ≤ (a : Int) := by omega
  have b2 : (a : Int) ≤ (s.size : Int) := by omega
  have c0 := (cell_of_block (k := 0) hB rfl).1
  have c1 := (cell_of_block (k := 1) hB rfl).1
  clear hB
  go_enter Tryd.func51, Tryd.ntmps51
  go_wp2_with fail
  go_region
  all_goals
    go_wp2_with fail
    go_ret
    exact ⟨rfl, (Below.refl _ _).drew⟩
end Go.Proofs.YtloialpcdedekaaDoor.Ip

namespace Go.Proofs.YtloialpcdedekaaDoor.Ip
set_option maxRecDepth 100000
open Go.RowKit Go.Proofs.YtloialpcdedekaaDoor.Wire

theorem number_at (B : Nat) (s : ByteArray) (a a' k n : Int) (sh : Bool) (v3 v4 v5 v6 v7 v8 v9 v10 v11 v12 : Value) (w : World) (hB : w.heap[B]? = some (.cells #[.string s, .int .i64 a, .bool sh, v3, v4, v5, v6, v7, v8, v9, v10, v11, v12] 112)) (h0 : 0 ≤ a) (h1 : 1 ≤ k) (h4 : k ≤ 4) (ha : a + k = a') (hk : a' ≤ s.size) (hs : s.size ≤ 9223372036854775807) (hn : num (bytesAt s a.toNat k.toNat) = n) :
    Calls Tryd.prog 63 #[.pointer (some ⟨B, 0, none⟩), .int .i64 k] w fun e w' => e = .returned (.int .i64 n) ∧ w'.heap[B]? = some (.cells #[.string s, .int .i64 a', .bool sh, v3, v4, v5, v6, v7, v8, v9, v10, v11, v12] 112) ∧ w.grownBy w' (some B) := by
  subst ha hn
  exact number_ok B s a k sh v3 v4 v5 v6 v7 v8 v9 v10 v11 v12 w hB h0 h1 h4 hk hs

set_option maxRecDepth 100000 in
set_option maxHeartbeats 4000000 in
theorem dheader_long (B : Nat) (s : ByteArray) (w : World) (n0 n1 n2 n3 n4 n5 n6 n7 n8 n9 : Int) (df mf res : Bool) (R : List UInt8) (hB : w.heap[B]? = some (.cells #[.string s, .int .i64 0, .bool false, .int .i64 0, .int .i64 0, .int .i64 0, .int .i64 0, .int .i64 0, .bool false, .bool false, .int .i64 0, .string ⟨#[]⟩, .int .i64 0] 112)) (h20 : 20 ≤ s.size) (hs : s.size ≤ 9223372036854775807)
    (h0 : Hid (num (bytesAt s 0 1) = n0)) (h1 : Hid (num (bytesAt s 1 4) = n1)) (h2 : Hid (num (bytesAt s 5 4) = n2)) (h3 : Hid (num (bytesAt s 9 1) = n3)) (h4 : Hid (num (bytesAt s 10 1) = n4)) (h5 : Hid (num (bytesAt s 11 2) = n5)) (h6 : Hid (num (bytesAt s 13 1) = n6)) (h7 : Hid (num (bytesAt s 14 2) = n7)) (h8 : Hid (num (bytesAt s 16 2) = n8)) (h9 : Hid (num (bytesAt s 18 2) = n9)) (hv : (n0 != 4) = false) (hdf : (bits .and .i64 n6 1 != 0) = df) (hmf : (bits .and .i64 n6 2 != 0) = mf) (hn7 : 0 ≤ n7) (hn7' : n7 ≤ 65535)
    (HH : Hid (∀ w, Calls Tryd.prog 44 #[.agg #[.int .i64 n1, .int .i64 n2, .int .i64 n3, .int .i64 n4, .int .i64 n5, .bool df, .bool mf, .int .i64 (8 * n7), .string ⟨#[]⟩], .int .i64 n8] w fun e w' => e = .returned (.string ⟨R.toArray⟩) ∧ Below w.heap.size w w')) (hcmp : (R == (s.extract 0 20).toList) = res) :
    Calls Tryd.prog 50 #[.pointer (some ⟨B, 0, none⟩)] w fun e w' => e = .returned (.bool res) ∧ w'.heap[B]? = some (.cells #[.string s, .int .i64 20, .bool false, .int .i64 n1, .int .i64 n2, .int .i64 n3, .int .i64 n4, .int .i64 n5, .bool df, .bool mf, .int .i64 (8 * n7), .string ⟨#[]⟩, .int .i64 n8] 112) ∧ w.grownBy w' (some B) := by
  have h20i : (20 : Int) ≤ (s.size : Int) := by omega
  have Hd := Lib.hid hB; clear hB
  have HB := only_refl w B
  go_enter Tryd.func50, Tryd.ntmps50
  go_wp2_with fail
  refine (number_at B s 0 1 1 n0 false (.int .i64 0) (.int .i64 0) (.int .i64 0) (.int .i64 0) (.int .i64 0) (.bool false) (.bool false) (.int .i64 0) (.string ⟨#[]⟩) (.int .i64 0) _ Hd.out (by omega) (by omega) (by omega) (by omega) (by omega) hs h0.out).mono ?_
  rintro e w0 ⟨rfl, Hd', hg⟩
  have HB' := only_trans HB hg; clear HB hg Hd; have HB := HB'; have Hd := Lib.hid Hd'; clear HB' Hd'
  go_wp2_with fail
  refine (number_at B s 1 5 4 n1 false (.int .i64 0) (.int .i64 0) (.int .i64 0) (.int .i64 0) (.int .i64 0) (.bool false) (.bool false) (.int .i64 0) (.string ⟨#[]⟩) (.int .i64 0) _ Hd.out (by omega) (by omega) (by omega) (by omega) (by omega) hs h1.out).mono ?_
  rintro e w1 ⟨rfl, Hd', hg⟩
  have HB' := only_trans HB hg; clear HB hg Hd; have HB := HB'; have Hd := Lib.hid Hd'; clear HB' Hd'
  have qd3 := (cell_of_block (k := 3) Hd.out rfl).1; have zd3 := (cell_of_block (k := 3) Hd.out rfl).2
  go_wp2_with fail
  clear qd3 zd3
  have Hd' := Lib.hid (block_setCell (k := 3) (v := .int .i64 n1) Hd.out); clear Hd; have Hd := Hd'; clear Hd'
  have HB' := only_set HB (p := ⟨B, 3, none⟩) (.inl rfl) (.int .i64 n1); clear HB; have HB := HB'; clear HB'
  generalize (World.setCell w1 ⟨B, 3, none⟩ (.int .i64 n1)) = w1s at *
  have Hd' : Hid (w1s.heap[B]? = some (.cells #[.string s, .int .i64 5, .bool false, .int .i64 n1, .int .i64 0, .int .i64 0, .int .i64 0, .int .i64 0, .bool false, .bool false, .int .i64 0, .string ⟨#[]⟩, .int .i64 0] 112)) := Lib.hid Hd.out; clear Hd; have Hd := Hd'; clear Hd'
  go_wp2_with fail
  refine (number_at B s 5 9 4 n2 false (.int .i64 n1) (.int .i64 0) (.int .i64 0) (.int .i64 0) (.int .i64 0) (.bool false) (.bool false) (.int .i64 0) (.string ⟨#[]⟩) (.int .i64 0) _ Hd.out (by omega) (by omega) (by omega) (by omega) (by omega) hs h2.out).mono ?_
  rintro e w2 ⟨rfl, Hd', hg⟩
  have HB' := only_trans HB hg; clear HB hg Hd; have HB := HB'; have Hd := Lib.hid Hd'; clear HB' Hd'
  have qd4 := (cell_of_block (k := 4) Hd.out rfl).1; have zd4 := (cell_of_block (k := 4) Hd.out rfl).2
  go_wp2_with fail
  clear qd4 zd4
  have Hd' := Lib.hid (block_setCell (k := 4) (v := .int .i64 n2) Hd.out); clear Hd; have Hd := Hd'; clear Hd'
  have HB' := only_set HB (p := ⟨B, 4, none⟩) (.inl rfl) (.int .i64 n2); clear HB; have HB := HB'; clear HB'
  generalize (World.setCell w2 ⟨B, 4, none⟩ (.int .i64 n2)) = w2s at *
  have Hd' : Hid (w2s.heap[B]? = some (.cells #[.string s, .int .i64 9, .bool false, .int .i64 n1, .int .i64 n2, .int .i64 0, .int .i64 0, .int .i64 0, .bool false, .bool false, .int .i64 0, .string ⟨#[]⟩, .int .i64 0] 112)) := Lib.hid Hd.out; clear Hd; have Hd := Hd'; clear Hd'
  go_wp2_with fail
  refine (number_at B s 9 10 1 n3 false (.int .i64 n1) (.int .i64 n2) (.int .i64 0) (.int .i64 0) (.int .i64 0) (.bool false) (.bool false) (.int .i64 0) (.string ⟨#[]⟩) (.int .i64 0) _ Hd.out (by omega) (by omega) (by omega) (by omega) (by omega) hs h3.out).mono ?_
  rintro e w3 ⟨rfl, Hd', hg⟩
  have HB' := only_trans HB hg; clear HB hg Hd; have HB := HB'; have Hd := Lib.hid Hd'; clear HB' Hd'
  have qd5 := (cell_of_block (k := 5) Hd.out rfl).1; have zd5 := (cell_of_block (k := 5) Hd.out rfl).2
  go_wp2_with fail
  clear qd5 zd5
  have Hd' := Lib.hid (block_setCell (k := 5) (v := .int .i64 n3) Hd.out); clear Hd; have Hd := Hd'; clear Hd'
  have HB' := only_set HB (p := ⟨B, 5, none⟩) (.inl rfl) (.int .i64 n3); clear HB; have HB := HB'; clear HB'
  generalize (World.setCell w3 ⟨B, 5, none⟩ (.int .i64 n3)) = w3s at *
  have Hd' : Hid (w3s.heap[B]? = some (.cells #[.string s, .int .i64 10, .bool false, .int .i64 n1, .int .i64 n2, .int .i64 n3, .int .i64 0, .int .i64 0, .bool false, .bool false, .int .i64 0, .string ⟨#[]⟩, .int .i64 0] 112)) := Lib.hid Hd.out; clear Hd; have Hd := Hd'; clear Hd'
  go_wp2_with fail
  refine (number_at B s 10 11 1 n4 false (.int .i64 n1) (.int .i64 n2) (.int .i64 n3) (.int .i64 0) (.int .i64 0) (.bool false) (.bool false) (.int .i64 0) (.string ⟨#[]⟩) (.int .i64 0) _ Hd.out (by omega) (by omega) (by omega) (by omega) (by omega) hs h4.out).mono ?_
  rintro e w4 ⟨rfl, Hd', hg⟩
  have HB' := only_trans HB hg; clear HB hg Hd; have HB := HB'; have Hd := Lib.hid Hd'; clear HB' Hd'
  have qd6 := (cell_of_block (k := 6) Hd.out rfl).1; have zd6 := (cell_of_block (k := 6) Hd.out rfl).2
  go_wp2_with fail
  clear qd6 zd6
  have Hd' := Lib.hid (block_setCell (k := 6) (v := .int .i64 n4) Hd.out); clear Hd; have Hd := Hd'; clear Hd'
  have HB' := only_set HB (p := ⟨B, 6, none⟩) (.inl rfl) (.int .i64 n4); clear HB; have HB := HB'; clear HB'
  generalize (World.setCell w4 ⟨B, 6, none⟩ (.int .i64 n4)) = w4s at *
  have Hd' : Hid (w4s.heap[B]? = some (.cells #[.string s, .int .i64 11, .bool false, .int .i64 n1, .int .i64 n2, .int .i64 n3, .int .i64 n4, .int .i64 0, .bool false, .bool false, .int .i64 0, .string ⟨#[]⟩, .int .i64 0] 112)) := Lib.hid Hd.out; clear Hd; have Hd := Hd'; clear Hd'
  go_wp2_with fail
  refine (number_at B s 11 13 2 n5 false (.int .i64 n1) (.int .i64 n2) (.int .i64 n3) (.int .i64 n4) (.int .i64 0) (.bool false) (.bool false) (.int .i64 0) (.string ⟨#[]⟩) (.int .i64 0) _ Hd.out (by omega) (by omega) (by omega) (by omega) (by omega) hs h5.out).mono ?_
  rintro e w5 ⟨rfl, Hd', hg⟩
  have HB' := only_trans HB hg; clear HB hg Hd; have HB := HB'; have Hd := Lib.hid Hd'; clear HB' Hd'
  have qd7 := (cell_of_block (k := 7) Hd.out rfl).1; have zd7 := (cell_of_block (k := 7) Hd.out rfl).2
  go_wp2_with fail
  clear qd7 zd7
  have Hd' := Lib.hid (block_setCell (k := 7) (v := .int .i64 n5) Hd.out); clear Hd; have Hd := Hd'; clear Hd'
  have HB' := only_set HB (p := ⟨B, 7, none⟩) (.inl rfl) (.int .i64 n5); clear HB; have HB := HB'; clear HB'
  generalize (World.setCell w5 ⟨B, 7, none⟩ (.int .i64 n5)) = w5s at *
  have Hd' : Hid (w5s.heap[B]? = some (.cells #[.string s, .int .i64 13, .bool false, .int .i64 n1, .int .i64 n2, .int .i64 n3, .int .i64 n4, .int .i64 n5, .bool false, .bool false, .int .i64 0, .string ⟨#[]⟩, .int .i64 0] 112)) := Lib.hid Hd.out; clear Hd; have Hd := Hd'; clear Hd'
  go_wp2_with fail
  refine (number_at B s 13 14 1 n6 false (.int .i64 n1) (.int .i64 n2) (.int .i64 n3) (.int .i64 n4) (.int .i64 n5) (.bool false) (.bool false) (.int .i64 0) (.string ⟨#[]⟩) (.int .i64 0) _ Hd.out (by omega) (by omega) (by omega) (by omega) (by omega) hs h6.out).mono ?_
  rintro e w6 ⟨rfl, Hd', hg⟩
  have HB' := only_trans HB hg; clear HB hg Hd; have HB := HB'; have Hd := Lib.hid Hd'; clear HB' Hd'
  have qd8 := (cell_of_block (k := 8) Hd.out rfl).1; have zd8 := (cell_of_block (k := 8) Hd.out rfl).2
  have qd9 := (cell_of_block (k := 9) Hd.out rfl).1; have zd9 := (cell_of_block (k := 9) Hd.out rfl).2
  go_wp2_with fail
  clear qd8 zd8 qd9 zd9
  have Hd' := Lib.hid (block_setCell (k := 8) (v := .bool df) Hd.out); clear Hd; have Hd := Hd'; clear Hd'
  have HB' := only_set HB (p := ⟨B, 8, none⟩) (.inl rfl) (.bool df); clear HB; have HB := HB'; clear HB'
  have Hd' := Lib.hid (block_setCell (k := 9) (v := .bool mf) Hd.out); clear Hd; have Hd := Hd'; clear Hd'
  have HB' := only_set HB (p := ⟨B, 9, none⟩) (.inl rfl) (.bool mf); clear HB; have HB := HB'; clear HB'
  generalize (World.setCell (World.setCell w6 ⟨B, 8, none⟩ (.bool df)) ⟨B, 9, none⟩ (.bool mf)) = w6s at *
  have Hd' : Hid (w6s.heap[B]? = some (.cells #[.string s, .int .i64 14, .bool false, .int .i64 n1, .int .i64 n2, .int .i64 n3, .int .i64 n4, .int .i64 n5, .bool df, .bool mf, .int .i64 0, .string ⟨#[]⟩, .int .i64 0] 112)) := Lib.hid Hd.out; clear Hd; have Hd := Hd'; clear Hd'
  go_wp2_with fail
  refine (number_at B s 14 16 2 n7 false (.int .i64 n1) (.int .i64 n2) (.int .i64 n3) (.int .i64 n4) (.int .i64 n5) (.bool df) (.bool mf) (.int .i64 0) (.string ⟨#[]⟩) (.int .i64 0) _ Hd.out (by omega) (by omega) (by omega) (by omega) (by omega) hs h7.out).mono ?_
  rintro e w7 ⟨rfl, Hd', hg⟩
  have HB' := only_trans HB hg; clear HB hg Hd; have HB := HB'; have Hd := Lib.hid Hd'; clear HB' Hd'
  have qd10 := (cell_of_block (k := 10) Hd.out rfl).1; have zd10 := (cell_of_block (k := 10) Hd.out rfl).2
  go_wp2_with fail
  clear qd10 zd10
  have Hd' := Lib.hid (block_setCell (k := 10) (v := .int .i64 (8 * n7)) Hd.out); clear Hd; have Hd := Hd'; clear Hd'
  have HB' := only_set HB (p := ⟨B, 10, none⟩) (.inl rfl) (.int .i64 (8 * n7)); clear HB; have HB := HB'; clear HB'
  generalize (World.setCell w7 ⟨B, 10, none⟩ (.int .i64 (8 * n7))) = w7s at *
  have Hd' : Hid (w7s.heap[B]? = some (.cells #[.string s, .int .i64 16, .bool false, .int .i64 n1, .int .i64 n2, .int .i64 n3, .int .i64 n4, .int .i64 n5, .bool df, .bool mf, .int .i64 (8 * n7), .string ⟨#[]⟩, .int .i64 0] 112)) := Lib.hid Hd.out; clear Hd; have Hd := Hd'; clear Hd'
  go_wp2_with fail
  refine (number_at B s 16 18 2 n8 false (.int .i64 n1) (.int .i64 n2) (.int .i64 n3) (.int .i64 n4) (.int .i64 n5) (.bool df) (.bool mf) (.int .i64 (8 * n7)) (.string ⟨#[]⟩) (.int .i64 0) _ Hd.out (by omega) (by omega) (by omega) (by omega) (by omega) hs h8.out).mono ?_
  rintro e w8 ⟨rfl, Hd', hg⟩
  have HB' := only_trans HB hg; clear HB hg Hd; have HB := HB'; have Hd := Lib.hid Hd'; clear HB' Hd'
  have qd12 := (cell_of_block (k := 12) Hd.out rfl).1; have zd12 := (cell_of_block (k := 12) Hd.out rfl).2
  go_wp2_with fail
  clear qd12 zd12
  have Hd' := Lib.hid (block_setCell (k := 12) (v := .int .i64 n8) Hd.out); clear Hd; have Hd := Hd'; clear Hd'
  have HB' := only_set HB (p := ⟨B, 12, none⟩) (.inl rfl) (.int .i64 n8); clear HB; have HB := HB'; clear HB'
  generalize (World.setCell w8 ⟨B, 12, none⟩ (.int .i64 n8)) = w8s at *
  have Hd' : Hid (w8s.heap[B]? = some (.cells #[.string s, .int .i64 18, .bool false, .int .i64 n1, .int .i64 n2, .int .i64 n3, .int .i64 n4, .int .i64 n5, .bool df, .bool mf, .int .i64 (8 * n7), .string ⟨#[]⟩, .int .i64 n8] 112)) := Lib.hid Hd.out; clear Hd; have Hd := Hd'; clear Hd'
  go_wp2_with fail
  refine (number_at B s 18 20 2 n9 false (.int .i64 n1) (.int .i64 n2) (.int .i64 n3) (.int .i64 n4) (.int .i64 n5) (.bool df) (.bool mf) (.int .i64 (8 * n7)) (.string ⟨#[]⟩) (.int .i64 n8) _ Hd.out (by omega) (by omega) (by omega) (by omega) (by omega) hs h9.out).mono ?_
  rintro e w9 ⟨rfl, Hd', hg⟩
  have HB' := only_trans HB hg; clear HB hg Hd; have HB := HB'; have Hd := Lib.hid Hd'; clear HB' Hd'
  go_wp2_with fail
  go_region_held3 (fun w' => w'.cell? ⟨B, 0, none⟩ = some (.string s) ∧ w'.cell? ⟨B, 2, none⟩ = some (.bool false) ∧ w'.cell? ⟨B, 3, none⟩ = some (.int .i64 n1) ∧ w'.cell? ⟨B, 4, none⟩ = some (.int .i64 n2) ∧ w'.cell? ⟨B, 5, none⟩ = some (.int .i64 n3) ∧ w'.cell? ⟨B, 6, none⟩ = some (.int .i64 n4) ∧ w'.cell? ⟨B, 7, none⟩ = some (.int .i64 n5) ∧ w'.cell? ⟨B, 8, none⟩ = some (.bool df) ∧ w'.cell? ⟨B, 9, none⟩ = some (.bool mf) ∧ w'.cell? ⟨B, 10, none⟩ = some (.int .i64 (8 * n7)) ∧ w'.cell? ⟨B, 11, none⟩ = some (.string ⟨#[]⟩) ∧ w'.cell? ⟨B, 12, none⟩ = some (.int .i64 n8) ∧ w'.heap[B]? = some (.cells #[.string s, .int .i64 20, .bool false, .int .i64 n1, .int .i64 n2, .int .i64 n3, .int .i64 n4, .int .i64 n5, .bool df, .bool mf, .int .i64 (8 * n7), .string ⟨#[]⟩, .int .i64 n8] 112) ∧ World.grownBy w w' (some (B))) (first | exact ⟨(cell_of_block Hd.out rfl).1, (cell_of_block Hd.out rfl).1, (cell_of_block Hd.out rfl).1, (cell_of_block Hd.out rfl).1, (cell_of_block Hd.out rfl).1, (cell_of_block Hd.out rfl).1, (cell_of_block Hd.out rfl).1, (cell_of_block Hd.out rfl).1, (cell_of_block Hd.out rfl).1, (cell_of_block Hd.out rfl).1, (cell_of_block Hd.out rfl).1, (cell_of_block Hd.out rfl).1, Hd.out, only_drew HB⟩ | (go_split_ands; exact ⟨by assumption, by assumption, by assumption, by assumption, by assumption, by assumption, by assumption, by assumption, by assumption, by assumption, by assumption, by assumption, by assumption, by assumption⟩) | (go_split_ands; exact ⟨bcell (by assumption) (by assumption), bcell (by assumption) (by assumption), bcell (by assumption) (by assumption), bcell (by assumption) (by assumption), bcell (by assumption) (by assumption), bcell (by assumption) (by assumption), bcell (by assumption) (by assumption), bcell (by assumption) (by assumption), bcell (by assumption) (by assumption), bcell (by assumption) (by assumption), bcell (by assumption) (by assumption), bcell (by assumption) (by assumption), bblock (by assumption) (by assumption), only_call (by assumption) (by assumption)⟩) | (go_split_ands; exact ⟨cell_alloc' _ (by assumption), cell_alloc' _ (by assumption), cell_alloc' _ (by assumption), cell_alloc' _ (by assumption), cell_alloc' _ (by assumption), cell_alloc' _ (by assumption), cell_alloc' _ (by assumption), cell_alloc' _ (by assumption), cell_alloc' _ (by assumption), cell_alloc' _ (by assumption), cell_alloc' _ (by assumption), cell_alloc' _ (by assumption), block_alloc (by assumption) _, only_alloc (by assumption)⟩))
    (first | (go_at_call 44; refine (HH.out _).mono ?_; rintro e wh ⟨rfl, hbh⟩))
  rename_i hH
  obtain ⟨k0_, k1_, k2_, k3_, k4_, k5_, k6_, k7_, k8_, k9_, k10_, k11_, k12_, HB'⟩ := hH
  clear Hd; have Hd := Lib.hid k12_
  clear k0_ k1_ k2_ k3_ k4_ k5_ k6_ k7_ k8_ k9_ k10_ k11_ k12_
  clear HB; have HB := HB'; clear HB'
  have hz := HB.size
  go_wp2_with fail
  go_ret
  exact ⟨rfl, Hd.out, HB⟩

end Go.Proofs.YtloialpcdedekaaDoor.Ip

namespace Go.Proofs.YtloialpcdedekaaDoor.Ip
set_option maxRecDepth 100000
open Go.RowKit Go.Proofs.YtloialpcdedekaaDoor.Wire

theorem only_drewN {a w : World} {row : Option Nat} (h : a.grownBy w row) (n : Nat) : a.grownBy (w.drewN n) row := ⟨h.os, h.tape, h.output, h.size, h.block⟩
theorem bytesAt_len_le (s : ByteArray) (a k : Nat) : (bytesAt s a k).length ≤ k := by unfold bytesAt; rw [List.length_take]; omega
theorem pow256 (k : Nat) (h : k ≤ 4) : (256 : Int) ^ k ≤ 4294967296 := by
  have : k = 0 ∨ k = 1 ∨ k = 2 ∨ k = 3 ∨ k = 4 := by omega
  rcases this with rfl | rfl | rfl | rfl | rfl <;> simp
theorem numAt_bd (s : ByteArray) (a k : Nat) (h : k ≤ 4) : 0 ≤ num (bytesAt s a k) ∧ num (bytesAt s a k) ≤ 4294967295 := by
  have h1 := num_bd (bytesAt s a k)
  have h2 := pow256 _ (Nat.le_trans (bytesAt_len_le s a k) h)
  omega
def NumPost (B : Nat) (s : ByteArray) (a k : Int) (sh : Bool) (v3 v4 v5 v6 v7 v8 v9 v10 v11 v12 : Value) (w : World) (e : Ending) (w' : World) : Prop :=
  ∃ (m a' : Int) (sh' : Bool), e = .returned (.int .i64 m) ∧ w'.heap[B]? = some (.cells #[.string s, .int .i64 a', .bool sh', v3, v4, v5, v6, v7, v8, v9, v10, v11, v12] 112) ∧ w.grownBy w' (some B) ∧ 0 ≤ m ∧ m ≤ 4294967295 ∧ 0 ≤ a' ∧ Hid (sh' = false → sh = false ∧ a' = a + k ∧ a' ≤ s.size)
theorem number_gen (B : Nat) (s : ByteArray) (a k : Int) (sh : Bool) (v3 v4 v5 v6 v7 v8 v9 v10 v11 v12 : Value) (w : World) (hB : w.heap[B]? = some (.cells #[.string s, .int .i64 a, .bool sh, v3, v4, v5, v6, v7, v8, v9, v10, v11, v12] 112)) (h0 : 0 ≤ a) (h1 : 1 ≤ k) (h4 : k ≤ 4) (hs : s.size ≤ 9223372036854775807) :
    Calls Tryd.prog 63 #[.pointer (some ⟨B, 0, none⟩), .int .i64 k] w (NumPost B s a k sh v3 v4 v5 v6 v7 v8 v9 v10 v11 v12 w) := by
  by_cases h : a + k ≤ s.size
  · refine (number_ok B s a k sh v3 v4 v5 v6 v7 v8 v9 v10 v11 v12 w hB h0 h1 h4 h hs).mono ?_
    rintro e w' ⟨rfl, h2, h3⟩
    have := numAt_bd s a.toNat k.toNat (by omega)
    exact ⟨_, _, _, rfl, h2, h3, this.1, this.2, by omega, Lib.hid fun hq => ⟨hq, rfl, h⟩⟩
  · refine (number_no B s a k sh v3 v4 v5 v6 v7 v8 v9 v10 v11 v12 w hB hs (by omega)).mono ?_
    rintro e w' ⟨rfl, h2, h3⟩
    exact ⟨_, _, _, rfl, h2, h3, by omega, by omega, by omega, Lib.hid fun hq => by cases hq⟩

set_option maxRecDepth 100000 in
set_option maxHeartbeats 4000000 in
theorem dheader_ver (B : Nat) (s : ByteArray) (w : World) (n0 : Int) (hB : w.heap[B]? = some (.cells #[.string s, .int .i64 0, .bool false, .int .i64 0, .int .i64 0, .int .i64 0, .int .i64 0, .int .i64 0, .bool false, .bool false, .int .i64 0, .string ⟨#[]⟩, .int .i64 0] 112)) (h1 : 1 ≤ s.size) (hs : s.size ≤ 9223372036854775807)
    (h0 : Hid (num (bytesAt s 0 1) = n0)) (hv : (n0 != 4) = true) :
    Calls Tryd.prog 50 #[.pointer (some ⟨B, 0, none⟩)] w fun e w' => e = .returned (.bool false) ∧ w.grownBy w' (some B) := by
  have Hd := Lib.hid hB
  clear hB
  go_enter Tryd.func50, Tryd.ntmps50
  go_wp2_with fail
  refine (number_at B s 0 1 1 n0 false (.int .i64 0) (.int .i64 0) (.int .i64 0) (.int .i64 0) (.int .i64 0) (.bool false) (.bool false) (.int .i64 0) (.string ⟨#[]⟩) (.int .i64 0) _ Hd.out (by omega) (by omega) (by omega) (by omega) (by omega) hs h0.out).mono ?_
  rintro e w1 ⟨rfl, _, hg⟩
  go_wp2_with fail
  go_ret
  exact ⟨rfl, hg⟩

set_option maxRecDepth 100000 in
set_option maxHeartbeats 4000000 in
theorem dheader_empty (B : Nat) (s : ByteArray) (w : World) (hB : w.heap[B]? = some (.cells #[.string s, .int .i64 0, .bool false, .int .i64 0, .int .i64 0, .int .i64 0, .int .i64 0, .int .i64 0, .bool false, .bool false, .int .i64 0, .string ⟨#[]⟩, .int .i64 0] 112)) (h1 : s.size = 0) :
    Calls Tryd.prog 50 #[.pointer (some ⟨B, 0, none⟩)] w fun e w' => e = .returned (.bool false) ∧ w.grownBy w' (some B) := by
  have HN := Lib.hid (number_no B s 0 1 false (.int .i64 0) (.int .i64 0) (.int .i64 0) (.int .i64 0) (.int .i64 0) (.bool false) (.bool false) (.int .i64 0) (.string ⟨#[]⟩) (.int .i64 0) w hB (by omega) (by omega))
  clear hB h1
  go_enter Tryd.func50, Tryd.ntmps50
  go_wp2_with fail
  refine HN.out.mono ?_
  rintro e w1 ⟨rfl, _, hg⟩
  go_wp2_with fail
  go_ret
  exact ⟨rfl, hg⟩

set_option maxRecDepth 100000 in
set_option maxHeartbeats 4000000 in
theorem dheader_short (B : Nat) (s : ByteArray) (w : World) (hB : w.heap[B]? = some (.cells #[.string s, .int .i64 0, .bool false, .int .i64 0, .int .i64 0, .int .i64 0, .int .i64 0, .int .i64 0, .bool false, .bool false, .int .i64 0, .string ⟨#[]⟩, .int .i64 0] 112)) (hl : 1 ≤ s.size) (h20 : s.size < 20) (hs : s.size ≤ 9223372036854775807)
    (h0 : Hid (num (bytesAt s 0 1) = 4)) :
    Calls Tryd.prog 50 #[.pointer (some ⟨B, 0, none⟩)] w fun e w' => e = .returned (.bool false) ∧ w.grownBy w' (some B) := by
  have Hd := Lib.hid hB; clear hB
  have HB := only_refl w B
  go_enter Tryd.func50, Tryd.ntmps50
  go_wp2_with fail
  refine (number_at B s 0 1 1 4 false (.int .i64 0) (.int .i64 0) (.int .i64 0) (.int .i64 0) (.int .i64 0) (.bool false) (.bool false) (.int .i64 0) (.string ⟨#[]⟩) (.int .i64 0) _ Hd.out (by omega) (by omega) (by omega) (by omega) (by omega) hs h0.out).mono ?_
  rintro e w0 ⟨rfl, Hd', hg⟩
  have HB' := only_trans HB hg; clear HB hg Hd; have HB := HB'; have Hd := Lib.hid Hd'; clear HB' Hd'
  go_wp2_with fail
  refine (number_gen B s 1 4 false (.int .i64 0) (.int .i64 0) (.int .i64 0) (.int .i64 0) (.int .i64 0) (.bool false) (.bool false) (.int .i64 0) (.string ⟨#[]⟩) (.int .i64 0) _ Hd.out (by omega) (by omega) (by omega) hs).mono ?_
  rintro e w1 ⟨m1, a1, sh1, rfl, Hd', hg, hm1, hM1, ha1, HQ1⟩
  have HB' := only_trans HB hg; clear HB hg Hd; have HB := HB'; have Hd := Lib.hid Hd'; clear HB' Hd'
  have qd3 := (cell_of_block (k := 3) Hd.out rfl).1; have zd3 := (cell_of_block (k := 3) Hd.out rfl).2
  go_wp2_with fail
  clear qd3 zd3
  have Hd' := Lib.hid (block_setCell (k := 3) (v := .int .i64 m1) Hd.out); clear Hd; have Hd := Hd'; clear Hd'
  have HB' := only_set HB (p := ⟨B, 3, none⟩) (.inl rfl) (.int .i64 m1); clear HB; have HB := HB'; clear HB'
  generalize (World.setCell w1 ⟨B, 3, none⟩ (.int .i64 m1)) = w1s at *
  have Hd' : Hid (w1s.heap[B]? = some (.cells #[.string s, .int .i64 a1, .bool sh1, .int .i64 m1, .int .i64 0, .int .i64 0, .int .i64 0, .int .i64 0, .bool false, .bool false, .int .i64 0, .string ⟨#[]⟩, .int .i64 0] 112)) := Lib.hid Hd.out; clear Hd; have Hd := Hd'; clear Hd'
  go_wp2_with fail
  refine (number_gen B s a1 4 sh1 (.int .i64 m1) (.int .i64 0) (.int .i64 0) (.int .i64 0) (.int .i64 0) (.bool false) (.bool false) (.int .i64 0) (.string ⟨#[]⟩) (.int .i64 0) _ Hd.out (by omega) (by omega) (by omega) hs).mono ?_
  rintro e w2 ⟨m2, a2, sh2, rfl, Hd', hg, hm2, hM2, ha2, HQ2⟩
  have HB' := only_trans HB hg; clear HB hg Hd; have HB := HB'; have Hd := Lib.hid Hd'; clear HB' Hd'
  have qd4 := (cell_of_block (k := 4) Hd.out rfl).1; have zd4 := (cell_of_block (k := 4) Hd.out rfl).2
  go_wp2_with fail
  clear qd4 zd4
  have Hd' := Lib.hid (block_setCell (k := 4) (v := .int .i64 m2) Hd.out); clear Hd; have Hd := Hd'; clear Hd'
  have HB' := only_set HB (p := ⟨B, 4, none⟩) (.inl rfl) (.int .i64 m2); clear HB; have HB := HB'; clear HB'
  generalize (World.setCell w2 ⟨B, 4, none⟩ (.int .i64 m2)) = w2s at *
  have Hd' : Hid (w2s.heap[B]? = some (.cells #[.string s, .int .i64 a2, .bool sh2, .int .i64 m1, .int .i64 m2, .int .i64 0, .int .i64 0, .int .i64 0, .bool false, .bool false, .int .i64 0, .string ⟨#[]⟩, .int .i64 0] 112)) := Lib.hid Hd.out; clear Hd; have Hd := Hd'; clear Hd'
  go_wp2_with fail
  refine (number_gen B s a2 1 sh2 (.int .i64 m1) (.int .i64 m2) (.int .i64 0) (.int .i64 0) (.int .i64 0) (.bool false) (.bool false) (.int .i64 0) (.string ⟨#[]⟩) (.int .i64 0) _ Hd.out (by omega) (by omega) (by omega) hs).mono ?_
  rintro e w3 ⟨m3, a3, sh3, rfl, Hd', hg, hm3, hM3, ha3, HQ3⟩
  have HB' := only_trans HB hg; clear HB hg Hd; have HB := HB'; have Hd := Lib.hid Hd'; clear HB' Hd'
  have qd5 := (cell_of_block (k := 5) Hd.out rfl).1; have zd5 := (cell_of_block (k := 5) Hd.out rfl).2
  go_wp2_with fail
  clear qd5 zd5
  have Hd' := Lib.hid (block_setCell (k := 5) (v := .int .i64 m3) Hd.out); clear Hd; have Hd := Hd'; clear Hd'
  have HB' := only_set HB (p := ⟨B, 5, none⟩) (.inl rfl) (.int .i64 m3); clear HB; have HB := HB'; clear HB'
  generalize (World.setCell w3 ⟨B, 5, none⟩ (.int .i64 m3)) = w3s at *
  have Hd' : Hid (w3s.heap[B]? = some (.cells #[.string s, .int .i64 a3, .bool sh3, .int .i64 m1, .int .i64 m2, .int .i64 m3, .int .i64 0, .int .i64 0, .bool false, .bool false, .int .i64 0, .string ⟨#[]⟩, .int .i64 0] 112)) := Lib.hid Hd.out; clear Hd; have Hd := Hd'; clear Hd'
  go_wp2_with fail
  refine (number_gen B s a3 1 sh3 (.int .i64 m1) (.int .i64 m2) (.int .i64 m3) (.int .i64 0) (.int .i64 0) (.bool false) (.bool false) (.int .i64 0) (.string ⟨#[]⟩) (.int .i64 0) _ Hd.out (by omega) (by omega) (by omega) hs).mono ?_
  rintro e w4 ⟨m4, a4, sh4, rfl, Hd', hg, hm4, hM4, ha4, HQ4⟩
  have HB' := only_trans HB hg; clear HB hg Hd; have HB := HB'; have Hd := Lib.hid Hd'; clear HB' Hd'
  have qd6 := (cell_of_block (k := 6) Hd.out rfl).1; have zd6 := (cell_of_block (k := 6) Hd.out rfl).2
  go_wp2_with fail
  clear qd6 zd6
  have Hd' := Lib.hid (block_setCell (k := 6) (v := .int .i64 m4) Hd.out); clear Hd; have Hd := Hd'; clear Hd'
  have HB' := only_set HB (p := ⟨B, 6, none⟩) (.inl rfl) (.int .i64 m4); clear HB; have HB := HB'; clear HB'
  generalize (World.setCell w4 ⟨B, 6, none⟩ (.int .i64 m4)) = w4s at *
  have Hd' : Hid (w4s.heap[B]? = some (.cells #[.string s, .int .i64 a4, .bool sh4, .int .i64 m1, .int .i64 m2, .int .i64 m3, .int .i64 m4, .int .i64 0, .bool false, .bool false, .int .i64 0, .string ⟨#[]⟩, .int .i64 0] 112)) := Lib.hid Hd.out; clear Hd; have Hd := Hd'; clear Hd'
  go_wp2_with fail
  refine (number_gen B s a4 2 sh4 (.int .i64 m1) (.int .i64 m2) (.int .i64 m3) (.int .i64 m4) (.int .i64 0) (.bool false) (.bool false) (.int .i64 0) (.string ⟨#[]⟩) (.int .i64 0) _ Hd.out (by omega) (by omega) (by omega) hs).mono ?_
  rintro e w5 ⟨m5, a5, sh5, rfl, Hd', hg, hm5, hM5, ha5, HQ5⟩
  have HB' := only_trans HB hg; clear HB hg Hd; have HB := HB'; have Hd := Lib.hid Hd'; clear HB' Hd'
  have qd7 := (cell_of_block (k := 7) Hd.out rfl).1; have zd7 := (cell_of_block (k := 7) Hd.out rfl).2
  go_wp2_with fail
  clear qd7 zd7
  have Hd' := Lib.hid (block_setCell (k := 7) (v := .int .i64 m5) Hd.out); clear Hd; have Hd := Hd'; clear Hd'
  have HB' := only_set HB (p := ⟨B, 7, none⟩) (.inl rfl) (.int .i64 m5); clear HB; have HB := HB'; clear HB'
  generalize (World.setCell w5 ⟨B, 7, none⟩ (.int .i64 m5)) = w5s at *
  have Hd' : Hid (w5s.heap[B]? = some (.cells #[.string s, .int .i64 a5, .bool sh5, .int .i64 m1, .int .i64 m2, .int .i64 m3, .int .i64 m4, .int .i64 m5, .bool false, .bool false, .int .i64 0, .string ⟨#[]⟩, .int .i64 0] 112)) := Lib.hid Hd.out; clear Hd; have Hd := Hd'; clear Hd'
  go_wp2_with fail
  refine (number_gen B s a5 1 sh5 (.int .i64 m1) (.int .i64 m2) (.int .i64 m3) (.int .i64 m4) (.int .i64 m5) (.bool false) (.bool false) (.int .i64 0) (.string ⟨#[]⟩) (.int .i64 0) _ Hd.out (by omega) (by omega) (by omega) hs).mono ?_
  rintro e w6 ⟨m6, a6, sh6, rfl, Hd', hg, hm6, hM6, ha6, HQ6⟩
  have HB' := only_trans HB hg; clear HB hg Hd; have HB := HB'; have Hd := Lib.hid Hd'; clear HB' Hd'
  have qd8 := (cell_of_block (k := 8) Hd.out rfl).1; have zd8 := (cell_of_block (k := 8) Hd.out rfl).2
  have qd9 := (cell_of_block (k := 9) Hd.out rfl).1; have zd9 := (cell_of_block (k := 9) Hd.out rfl).2
  go_wp2_with fail
  clear qd8 zd8 qd9 zd9
  have Hd' := Lib.hid (block_setCell (k := 8) (v := .bool (bits .and .i64 m6 1 != 0)) Hd.out); clear Hd; have Hd := Hd'; clear Hd'
  have HB' := only_set HB (p := ⟨B, 8, none⟩) (.inl rfl) (.bool (bits .and .i64 m6 1 != 0)); clear HB; have HB := HB'; clear HB'
  have Hd' := Lib.hid (block_setCell (k := 9) (v := .bool (bits .and .i64 m6 2 != 0)) Hd.out); clear Hd; have Hd := Hd'; clear Hd'
  have HB' := only_set HB (p := ⟨B, 9, none⟩) (.inl rfl) (.bool (bits .and .i64 m6 2 != 0)); clear HB; have HB := HB'; clear HB'
  generalize (World.setCell (World.setCell w6 ⟨B, 8, none⟩ (.bool (bits .and .i64 m6 1 != 0))) ⟨B, 9, none⟩ (.bool (bits .and .i64 m6 2 != 0))) = w6s at *
  have Hd' : Hid (w6s.heap[B]? = some (.cells #[.string s, .int .i64 a6, .bool sh6, .int .i64 m1, .int .i64 m2, .int .i64 m3, .int .i64 m4, .int .i64 m5, .bool (bits .and .i64 m6 1 != 0), .bool (bits .and .i64 m6 2 != 0), .int .i64 0, .string ⟨#[]⟩, .int .i64 0] 112)) := Lib.hid Hd.out; clear Hd; have Hd := Hd'; clear Hd'
  go_wp2_with fail
  refine (number_gen B s a6 2 sh6 (.int .i64 m1) (.int .i64 m2) (.int .i64 m3) (.int .i64 m4) (.int .i64 m5) (.bool (bits .and .i64 m6 1 != 0)) (.bool (bits .and .i64 m6 2 != 0)) (.int .i64 0) (.string ⟨#[]⟩) (.int .i64 0) _ Hd.out (by omega) (by omega) (by omega) hs).mono ?_
  rintro e w7 ⟨m7, a7, sh7, rfl, Hd', hg, hm7, hM7, ha7, HQ7⟩
  have HB' := only_trans HB hg; clear HB hg Hd; have HB := HB'; have Hd := Lib.hid Hd'; clear HB' Hd'
  have qd10 := (cell_of_block (k := 10) Hd.out rfl).1; have zd10 := (cell_of_block (k := 10) Hd.out rfl).2
  go_wp2_with fail
  clear qd10 zd10
  have Hd' := Lib.hid (block_setCell (k := 10) (v := .int .i64 (8 * m7)) Hd.out); clear Hd; have Hd := Hd'; clear Hd'
  have HB' := only_set HB (p := ⟨B, 10, none⟩) (.inl rfl) (.int .i64 (8 * m7)); clear HB; have HB := HB'; clear HB'
  generalize (World.setCell w7 ⟨B, 10, none⟩ (.int .i64 (8 * m7))) = w7s at *
  have Hd' : Hid (w7s.heap[B]? = some (.cells #[.string s, .int .i64 a7, .bool sh7, .int .i64 m1, .int .i64 m2, .int .i64 m3, .int .i64 m4, .int .i64 m5, .bool (bits .and .i64 m6 1 != 0), .bool (bits .and .i64 m6 2 != 0), .int .i64 (8 * m7), .string ⟨#[]⟩, .int .i64 0] 112)) := Lib.hid Hd.out; clear Hd; have Hd := Hd'; clear Hd'
  go_wp2_with fail
  refine (number_gen B s a7 2 sh7 (.int .i64 m1) (.int .i64 m2) (.int .i64 m3) (.int .i64 m4) (.int .i64 m5) (.bool (bits .and .i64 m6 1 != 0)) (.bool (bits .and .i64 m6 2 != 0)) (.int .i64 (8 * m7)) (.string ⟨#[]⟩) (.int .i64 0) _ Hd.out (by omega) (by omega) (by omega) hs).mono ?_
  rintro e w8 ⟨m8, a8, sh8, rfl, Hd', hg, hm8, hM8, ha8, HQ8⟩
  have HB' := only_trans HB hg; clear HB hg Hd; have HB := HB'; have Hd := Lib.hid Hd'; clear HB' Hd'
  have qd12 := (cell_of_block (k := 12) Hd.out rfl).1; have zd12 := (cell_of_block (k := 12) Hd.out rfl).2
  go_wp2_with fail
  clear qd12 zd12
  have Hd' := Lib.hid (block_setCell (k := 12) (v := .int .i64 m8) Hd.out); clear Hd; have Hd := Hd'; clear Hd'
  have HB' := only_set HB (p := ⟨B, 12, none⟩) (.inl rfl) (.int .i64 m8); clear HB; have HB := HB'; clear HB'
  generalize (World.setCell w8 ⟨B, 12, none⟩ (.int .i64 m8)) = w8s at *
  have Hd' : Hid (w8s.heap[B]? = some (.cells #[.string s, .int .i64 a8, .bool sh8, .int .i64 m1, .int .i64 m2, .int .i64 m3, .int .i64 m4, .int .i64 m5, .bool (bits .and .i64 m6 1 != 0), .bool (bits .and .i64 m6 2 != 0), .int .i64 (8 * m7), .string ⟨#[]⟩, .int .i64 m8] 112)) := Lib.hid Hd.out; clear Hd; have Hd := Hd'; clear Hd'
  go_wp2_with fail
  refine (number_gen B s a8 2 sh8 (.int .i64 m1) (.int .i64 m2) (.int .i64 m3) (.int .i64 m4) (.int .i64 m5) (.bool (bits .and .i64 m6 1 != 0)) (.bool (bits .and .i64 m6 2 != 0)) (.int .i64 (8 * m7)) (.string ⟨#[]⟩) (.int .i64 m8) _ Hd.out (by omega) (by omega) (by omega) hs).mono ?_
  rintro e w9 ⟨m9, a9, sh9, rfl, Hd', hg, hm9, hM9, ha9, HQ9⟩
  have HB' := only_trans HB hg; clear HB hg Hd; have HB := HB'; have Hd := Lib.hid Hd'; clear HB' Hd'
  have hsh : sh9 = true := by
    cases hq9 : sh9 with
    | true => rfl
    | false =>
      obtain ⟨q9, r9, t9⟩ := HQ9.out hq9
      obtain ⟨q8, r8, t8⟩ := HQ8.out q9
      obtain ⟨q7, r7, t7⟩ := HQ7.out q8
      obtain ⟨q6, r6, t6⟩ := HQ6.out q7
      obtain ⟨q5, r5, t5⟩ := HQ5.out q6
      obtain ⟨q4, r4, t4⟩ := HQ4.out q5
      obtain ⟨q3, r3, t3⟩ := HQ3.out q4
      obtain ⟨q2, r2, t2⟩ := HQ2.out q3
      obtain ⟨q1, r1, t1⟩ := HQ1.out q2
      omega
  subst hsh
  clear HQ1 HQ2 HQ3 HQ4 HQ5 HQ6 HQ7 HQ8 HQ9
  have qd2 := (cell_of_block (k := 2) Hd.out rfl).1
  go_wp2_with fail
  go_quiet (fail)
  go_wp2_with fail
  go_ret
  exact ⟨rfl, only_drewN HB _⟩

end Go.Proofs.YtloialpcdedekaaDoor.Ip

namespace Go.Proofs.YtloialpcdedekaaDoor.Ip
set_option maxRecDepth 100000
open Go.RowKit Go.Proofs.YtloialpcdedekaaDoor.Wire
attribute [local go_sem ↓] Go.wp_at_zero Go.wp_at_succ
theorem only_undrew {a w : World} {row : Option Nat} (h : a.drew.grownBy w row) : a.grownBy w row := ⟨h.os, h.tape, h.output, h.size, h.block⟩

set_option maxRecDepth 100000 in
set_option maxHeartbeats 4000000 in
theorem DecodeHeader_bad (s : ByteArray) (w : World) (HD : Hid (∀ (B : Nat) (w : World), w.heap[B]? = some (.cells #[.string s, .int .i64 0, .bool false, .int .i64 0, .int .i64 0, .int .i64 0, .int .i64 0, .int .i64 0, .bool false, .bool false, .int .i64 0, .string ⟨#[]⟩, .int .i64 0] 112) → Calls Tryd.prog 50 #[.pointer (some ⟨B, 0, none⟩)] w fun e w' => e = .returned (.bool false) ∧ w.grownBy w' (some B))) :
    Calls Tryd.prog 31 #[.string s] w fun e w' => e = .returned (.tuple #[.agg #[.int .i64 0, .int .i64 0, .int .i64 0, .int .i64 0, .int .i64 0, .bool false, .bool false, .int .i64 0, .string ⟨#[]⟩], .int .i64 60]) ∧ Below w.heap.size w w' := by
  go_enter Tryd.func31, Tryd.ntmps31
  have HB := Below.refl w.heap.size w
  have Hr := Lib.hid (alloc_new' w (.cells #[.int .i64 0, .int .i64 0, .int .i64 0, .int .i64 0, .int .i64 0, .bool false, .bool false, .int .i64 0, .string ⟨#[]⟩] 37) (w.heap.size) (by simp))
  have HB' := below_alloc (o := .cells #[.int .i64 0, .int .i64 0, .int .i64 0, .int .i64 0, .int .i64 0, .bool false, .bool false, .int .i64 0, .string ⟨#[]⟩] 37) HB; clear HB; have HB := HB'; clear HB'
  have Hd := Lib.hid (alloc_new' (w.alloc (.cells #[.int .i64 0, .int .i64 0, .int .i64 0, .int .i64 0, .int .i64 0, .bool false, .bool false, .int .i64 0, .string ⟨#[]⟩] 37)) (.cells #[.string s, .int .i64 0, .bool false, .int .i64 0, .int .i64 0, .int .i64 0, .int .i64 0, .int .i64 0, .bool false, .bool false, .int .i64 0, .string ⟨#[]⟩, .int .i64 0] 112) (w.heap.size + 1) (by simp))
  have Hr' := Lib.hid (block_alloc Hr.out (.cells #[.string s, .int .i64 0, .bool false, .int .i64 0, .int .i64 0, .int .i64 0, .int .i64 0, .int .i64 0, .bool false, .bool false, .int .i64 0, .string ⟨#[]⟩, .int .i64 0] 112)); clear Hr; have Hr := Hr'; clear Hr'
  have HB' := below_alloc (o := .cells #[.string s, .int .i64 0, .bool false, .int .i64 0, .int .i64 0, .int .i64 0, .int .i64 0, .int .i64 0, .bool false, .bool false, .int .i64 0, .string ⟨#[]⟩, .int .i64 0] 112) HB; clear HB; have HB := HB'; clear HB'
  go_upto_region 2 with fail
  go_cut [17] (fun s17 wx => s17 = .bool true ∧ Below w.heap.size w wx ∧ wx.heap[w.heap.size]? = some (.cells #[.int .i64 0, .int .i64 0, .int .i64 0, .int .i64 0, .int .i64 0, .bool false, .bool false, .int .i64 0, .string ⟨#[]⟩] 37))
  case first =>
    first | (go_region_with (first | (go_at_call 50; refine (HD.out _ _ (by exact Hd.out)).mono ?_; rintro e w1 ⟨rfl, hg0⟩))) | fail
    all_goals
      have hg := only_undrew hg0; clear hg0
      have Hr' := Lib.hid (bblock_only hg Hr.out (by simp))
      have HB' := below_only HB hg (by omega)
      go_wp2_with fail
      go_meet
      exact ⟨rfl, HB', Hr'.out⟩
  case rest =>
    clear HB Hr Hd
    obtain ⟨rfl, HB, Hr⟩ := hcut
    have Hr' := Lib.hid Hr; clear Hr
    obtain ⟨⟨qr0, qr1, qr2, qr3, qr4, qr5, qr6, qr7, qr8⟩, zr0, zr1, zr2, zr3, zr4, zr5, zr6, zr7, zr8⟩ := cells9 Hr'.out
    go_wp2_with fail
    have HZ := cells_eq (b := #[.int .i64 0, .int .i64 0, .int .i64 0, .int .i64 0, .int .i64 0, .bool false, .bool false, .int .i64 0, .string ⟨#[]⟩]) (block_setCell (k := 8) (v := .string ⟨#[]⟩) (block_setCell (k := 7) (v := .int .i64 0) (block_setCell (k := 6) (v := .bool false) (block_setCell (k := 5) (v := .bool false) (block_setCell (k := 4) (v := .int .i64 0) (block_setCell (k := 3) (v := .int .i64 0) (block_setCell (k := 2) (v := .int .i64 0) (block_setCell (k := 1) (v := .int .i64 0) (block_setCell (k := 0) (v := .int .i64 0) Hr'.out))))))))) rfl
    refine bodyPost_ret (v := .tuple #[.agg #[.int .i64 0, .int .i64 0, .int .i64 0, .int .i64 0, .int .i64 0, .bool false, .bool false, .int .i64 0, .string ⟨#[]⟩], .int .i64 60]) ?_ rfl ⟨rfl, (Below.setCell (Below.setCell (Below.setCell (Below.setCell (Below.setCell (Below.setCell (Below.setCell (Below.setCell (Below.setCell HB (by simp) _) (by simp) _) (by simp) _) (by simp) _) (by simp) _) (by simp) _) (by simp) _) (by simp) _) (by simp) _)⟩
    exact res_cell_tmp Tryd.results31 HZ rfl Tryd.underlying37 rfl (by kernel_rfl)

set_option maxRecDepth 100000 in
set_option maxHeartbeats 4000000 in
theorem DecodeHeader_good (s : ByteArray) (w : World) (n1 n2 n3 n4 n5 n7 n8 : Int) (df mf : Bool) (h20 : 20 ≤ s.size) (hs : s.size ≤ 9223372036854775807) (hn : decide (n8 < ((s.size - 20 : Nat) : Int)) = false)
    (HD : Hid (∀ (B : Nat) (w : World), w.heap[B]? = some (.cells #[.string s, .int .i64 0, .bool false, .int .i64 0, .int .i64 0, .int .i64 0, .int .i64 0, .int .i64 0, .bool false, .bool false, .int .i64 0, .string ⟨#[]⟩, .int .i64 0] 112) → Calls Tryd.prog 50 #[.pointer (some ⟨B, 0, none⟩)] w fun e w' => e = .returned (.bool true) ∧ w'.heap[B]? = some (.cells #[.string s, .int .i64 20, .bool false, .int .i64 n1, .int .i64 n2, .int .i64 n3, .int .i64 n4, .int .i64 n5, .bool df, .bool mf, .int .i64 (8 * n7), .string ⟨#[]⟩, .int .i64 n8] 112) ∧ w.grownBy w' (some B))) :
    Calls Tryd.prog 31 #[.string s] w fun e w' => e = .returned (.tuple #[.agg #[.int .i64 n1, .int .i64 n2, .int .i64 n3, .int .i64 n4, .int .i64 n5, .bool df, .bool mf, .int .i64 (8 * n7), .string (s.extract 20 s.size)], .int .i64 0]) ∧ Below w.heap.size w w' := by
  go_enter Tryd.func31, Tryd.ntmps31
  have HB := Below.refl w.heap.size w
  have Hr := Lib.hid (alloc_new' w (.cells #[.int .i64 0, .int .i64 0, .int .i64 0, .int .i64 0, .int .i64 0, .bool false, .bool false, .int .i64 0, .string ⟨#[]⟩] 37) (w.heap.size) (by simp))
  have HB' := below_alloc (o := .cells #[.int .i64 0, .int .i64 0, .int .i64 0, .int .i64 0, .int .i64 0, .bool false, .bool false, .int .i64 0, .string ⟨#[]⟩] 37) HB; clear HB; have HB := HB'; clear HB'
  have Hd := Lib.hid (alloc_new' (w.alloc (.cells #[.int .i64 0, .int .i64 0, .int .i64 0, .int .i64 0, .int .i64 0, .bool false, .bool false, .int .i64 0, .string ⟨#[]⟩] 37)) (.cells #[.string s, .int .i64 0, .bool false, .int .i64 0, .int .i64 0, .int .i64 0, .int .i64 0, .int .i64 0, .bool false, .bool false, .int .i64 0, .string ⟨#[]⟩, .int .i64 0] 112) (w.heap.size + 1) (by simp))
  have Hr' := Lib.hid (block_alloc Hr.out (.cells #[.string s, .int .i64 0, .bool false, .int .i64 0, .int .i64 0, .int .i64 0, .int .i64 0, .int .i64 0, .bool false, .bool false, .int .i64 0, .string ⟨#[]⟩, .int .i64 0] 112)); clear Hr; have Hr := Hr'; clear Hr'
  have HB' := below_alloc (o := .cells #[.string s, .int .i64 0, .bool false, .int .i64 0, .int .i64 0, .int .i64 0, .int .i64 0, .int .i64 0, .bool false, .bool false, .int .i64 0, .string ⟨#[]⟩, .int .i64 0] 112) HB; clear HB; have HB := HB'; clear HB'
  go_upto_region 2 with fail
  go_cut [17] (fun s17 wx => s17 = .bool false ∧ Below w.heap.size w wx ∧ wx.heap[w.heap.size]? = some (.cells #[.int .i64 0, .int .i64 0, .int .i64 0, .int .i64 0, .int .i64 0, .bool false, .bool false, .int .i64 0, .string ⟨#[]⟩] 37) ∧ wx.heap[w.heap.size + 1]? = some (.cells #[.string s, .int .i64 20, .bool false, .int .i64 n1, .int .i64 n2, .int .i64 n3, .int .i64 n4, .int .i64 n5, .bool df, .bool mf, .int .i64 (8 * n7), .string ⟨#[]⟩, .int .i64 n8] 112))
  case first =>
    first | (go_region_with (first | (go_at_call 50; refine (HD.out _ _ (by exact Hd.out)).mono ?_; rintro e w1 ⟨rfl, Hd', hg0⟩; have Hd2 := Lib.hid Hd'; have qd12 := (cell_of_block (k := 12) Hd2.out rfl).1) | (go_at_call 51; refine (rest_any (w.heap.size + 1) s 20 (.bool false) (.int .i64 n1) (.int .i64 n2) (.int .i64 n3) (.int .i64 n4) (.int .i64 n5) (.bool df) (.bool mf) (.int .i64 (8 * n7)) (.string ⟨#[]⟩) (.int .i64 n8) _ (by exact Hd2.out) (by omega) hs).mono ?_; rintro e w2 ⟨rfl, hb2⟩; have qd12b := bcell hb2 qd12))) | fail
    all_goals
      have hg := only_undrew hg0; clear hg0
      have Hr' := Lib.hid (bblock_only hg Hr.out (by simp))
      have HB' := below_only HB hg (by omega)
      have HB2 := below_call HB' hb2; have Hr2 := Lib.hid (bblock hb2 Hr'.out); have Hd3 := Lib.hid (bblock hb2 Hd2.out)
      go_wp2_with fail
      go_meet
      exact ⟨rfl, HB2, Hr2.out, Hd3.out⟩
  case rest =>
    clear HB Hr Hd
    obtain ⟨rfl, HB, Hr, Hd⟩ := hcut
    have Hr' := Lib.hid Hr; clear Hr; have Hd' := Lib.hid Hd; clear Hd; have Hd := Hd'; have Hr := Hr'; clear Hd' Hr'
    have Hx := rest_any (w.heap.size + 1) s 20 (.bool false) (.int .i64 n1) (.int .i64 n2) (.int .i64 n3) (.int .i64 n4) (.int .i64 n5) (.bool df) (.bool mf) (.int .i64 (8 * n7)) (.string ⟨#[]⟩) (.int .i64 n8) _ Hd.out (by omega) hs; have HX := Lib.hid Hx; clear Hx
    go_wp2_with fail
    refine (HX.out).mono ?_
    rintro e w3 ⟨rfl, hb3⟩
    have HB' := below_call HB hb3; have Hr' := Lib.hid (bblock hb3 Hr.out); have Hd' := Lib.hid (bblock hb3 Hd.out); clear hb3 HX HB Hr Hd; have HB := HB'; have Hr := Hr'; have Hd := Hd'; clear HB' Hr' Hd'
    have Hd' := Lib.hid (cells_eq (b := #[.string s, .int .i64 20, .bool false, .int .i64 n1, .int .i64 n2, .int .i64 n3, .int .i64 n4, .int .i64 n5, .bool df, .bool mf, .int .i64 (8 * n7), .string (s.extract 20 s.size), .int .i64 n8]) (block_setCell (k := 11) (v := .string (s.extract 20 s.size)) Hd.out) rfl)
    have Hr' := Lib.hid (block_set_other (a := ⟨w.heap.size + 1, 11, none⟩) (u := .string (s.extract 20 s.size)) Hr.out (by simp))
    have HB' := Below.setCell HB (p := ⟨w.heap.size + 1, 11, none⟩) (by simp) (.string (s.extract 20 s.size))
    have qd11 := (cell_of_block (k := 11) Hd.out rfl).1; have zd11 := (cell_of_block (k := 11) Hd.out rfl).2
    obtain ⟨⟨qr0, qr1, qr2, qr3, qr4, qr5, qr6, qr7, qr8⟩, zr0, zr1, zr2, zr3, zr4, zr5, zr6, zr7, zr8⟩ := cells9 Hr.out
    obtain ⟨⟨qd0, qd1, qd2, qd3, qd4, qd5, qd6, qd7, qd8, qd9, qd10, _, qd12⟩, _⟩ := cells13 Hd.out
    go_wp2_with fail
    have HZ := cells_eq (b := #[.int .i64 n1, .int .i64 n2, .int .i64 n3, .int .i64 n4, .int .i64 n5, .bool df, .bool mf, .int .i64 (8 * n7), .string (s.extract 20 s.size)]) (block_setCell (k := 8) (v := .string (s.extract 20 s.size)) (block_setCell (k := 7) (v := .int .i64 (8 * n7)) (block_setCell (k := 6) (v := .bool mf) (block_setCell (k := 5) (v := .bool df) (block_setCell (k := 4) (v := .int .i64 n5) (block_setCell (k := 3) (v := .int .i64 n4) (block_setCell (k := 2) (v := .int .i64 n3) (block_setCell (k := 1) (v := .int .i64 n2) (block_setCell (k := 0) (v := .int .i64 n1) Hr'.out))))))))) rfl
    refine bodyPost_ret (v := .tuple #[.agg #[.int .i64 n1, .int .i64 n2, .int .i64 n3, .int .i64 n4, .int .i64 n5, .bool df, .bool mf, .int .i64 (8 * n7), .string (s.extract 20 s.size)], .int .i64 0]) ?_ rfl ⟨rfl, (Below.setCell (Below.setCell (Below.setCell (Below.setCell (Below.setCell (Below.setCell (Below.setCell (Below.setCell (Below.setCell HB' (by simp) _) (by simp) _) (by simp) _) (by simp) _) (by simp) _) (by simp) _) (by simp) _) (by simp) _) (by simp) _)⟩
    exact res_cell_tmp Tryd.results31 HZ rfl Tryd.underlying37 rfl (by kernel_rfl)

set_option maxRecDepth 100000 in
set_option maxHeartbeats 4000000 in
theorem DecodeHeader_long (s : ByteArray) (w : World) (n1 n2 n3 n4 n5 n7 n8 : Int) (df mf : Bool) (h20 : 20 ≤ s.size) (hs : s.size ≤ 9223372036854775807) (hn : decide (n8 < ((s.size - 20 : Nat) : Int)) = true)
    (HD : Hid (∀ (B : Nat) (w : World), w.heap[B]? = some (.cells #[.string s, .int .i64 0, .bool false, .int .i64 0, .int .i64 0, .int .i64 0, .int .i64 0, .int .i64 0, .bool false, .bool false, .int .i64 0, .string ⟨#[]⟩, .int .i64 0] 112) → Calls Tryd.prog 50 #[.pointer (some ⟨B, 0, none⟩)] w fun e w' => e = .returned (.bool true) ∧ w'.heap[B]? = some (.cells #[.string s, .int .i64 20, .bool false, .int .i64 n1, .int .i64 n2, .int .i64 n3, .int .i64 n4, .int .i64 n5, .bool df, .bool mf, .int .i64 (8 * n7), .string ⟨#[]⟩, .int .i64 n8] 112) ∧ w.grownBy w' (some B))) :
    Calls Tryd.prog 31 #[.string s] w fun e w' => e = .returned (.tuple #[.agg #[.int .i64 0, .int .i64 0, .int .i64 0, .int .i64 0, .int .i64 0, .bool false, .bool false, .int .i64 0, .string ⟨#[]⟩], .int .i64 60]) ∧ Below w.heap.size w w' := by
  go_enter Tryd.func31, Tryd.ntmps31
  have HB := Below.refl w.heap.size w
  have Hr := Lib.hid (alloc_new' w (.cells #[.int .i64 0, .int .i64 0, .int .i64 0, .int .i64 0, .int .i64 0, .bool false, .bool false, .int .i64 0, .string ⟨#[]⟩] 37) (w.heap.size) (by simp))
  have HB' := below_alloc (o := .cells #[.int .i64 0, .int .i64 0, .int .i64 0, .int .i64 0, .int .i64 0, .bool false, .bool false, .int .i64 0, .string ⟨#[]⟩] 37) HB; clear HB; have HB := HB'; clear HB'
  have Hd := Lib.hid (alloc_new' (w.alloc (.cells #[.int .i64 0, .int .i64 0, .int .i64 0, .int .i64 0, .int .i64 0, .bool false, .bool false, .int .i64 0, .string ⟨#[]⟩] 37)) (.cells #[.string s, .int .i64 0, .bool false, .int .i64 0, .int .i64 0, .int .i64 0, .int .i64 0, .int .i64 0, .bool false, .bool false, .int .i64 0, .string ⟨#[]⟩, .int .i64 0] 112) (w.heap.size + 1) (by simp))
  have Hr' := Lib.hid (block_alloc Hr.out (.cells #[.string s, .int .i64 0, .bool false, .int .i64 0, .int .i64 0, .int .i64 0, .int .i64 0, .int .i64 0, .bool false, .bool false, .int .i64 0, .string ⟨#[]⟩, .int .i64 0] 112)); clear Hr; have Hr := Hr'; clear Hr'
  have HB' := below_alloc (o := .cells #[.string s, .int .i64 0, .bool false, .int .i64 0, .int .i64 0, .int .i64 0, .int .i64 0, .int .i64 0, .bool false, .bool false, .int .i64 0, .string ⟨#[]⟩, .int .i64 0] 112) HB; clear HB; have HB := HB'; clear HB'
  go_upto_region 2 with fail
  go_cut [17] (fun s17 wx => s17 = .bool true ∧ Below w.heap.size w wx ∧ wx.heap[w.heap.size]? = some (.cells #[.int .i64 0, .int .i64 0, .int .i64 0, .int .i64 0, .int .i64 0, .bool false, .bool false, .int .i64 0, .string ⟨#[]⟩] 37) ∧ wx.heap[w.heap.size + 1]? = some (.cells #[.string s, .int .i64 20, .bool false, .int .i64 n1, .int .i64 n2, .int .i64 n3, .int .i64 n4, .int .i64 n5, .bool df, .bool mf, .int .i64 (8 * n7), .string ⟨#[]⟩, .int .i64 n8] 112))
  case first =>
    first | (go_region_with (first | (go_at_call 50; refine (HD.out _ _ (by exact Hd.out)).mono ?_; rintro e w1 ⟨rfl, Hd', hg0⟩; have Hd2 := Lib.hid Hd'; have qd12 := (cell_of_block (k := 12) Hd2.out rfl).1) | (go_at_call 51; refine (rest_any (w.heap.size + 1) s 20 (.bool false) (.int .i64 n1) (.int .i64 n2) (.int .i64 n3) (.int .i64 n4) (.int .i64 n5) (.bool df) (.bool mf) (.int .i64 (8 * n7)) (.string ⟨#[]⟩) (.int .i64 n8) _ (by exact Hd2.out) (by omega) hs).mono ?_; rintro e w2 ⟨rfl, hb2⟩; have qd12b := bcell hb2 qd12))) | fail
    all_goals
      have hg := only_undrew hg0; clear hg0
      have Hr' := Lib.hid (bblock_only hg Hr.out (by simp))
      have HB' := below_only HB hg (by omega)
      have HB2 := below_call HB' hb2; have Hr2 := Lib.hid (bblock hb2 Hr'.out); have Hd3 := Lib.hid (bblock hb2 Hd2.out)
      go_wp2_with fail
      go_meet
      exact ⟨rfl, HB2, Hr2.out, Hd3.out⟩
  case rest =>
    clear HB Hr Hd
    obtain ⟨rfl, HB, Hr, Hd⟩ := hcut
    have Hr' := Lib.hid Hr; clear Hr; have Hd' := Lib.hid Hd; clear Hd; have Hd := Hd'; have Hr := Hr'; clear Hd' Hr'
    obtain ⟨⟨qr0, qr1, qr2, qr3, qr4, qr5, qr6, qr7, qr8⟩, zr0, zr1, zr2, zr3, zr4, zr5, zr6, zr7, zr8⟩ := cells9 Hr.out
    go_wp2_with fail
    have HZ := cells_eq (b := #[.int .i64 0, .int .i64 0, .int .i64 0, .int .i64 0, .int .i64 0, .bool false, .bool false, .int .i64 0, .string ⟨#[]⟩]) (block_setCell (k := 8) (v := .string ⟨#[]⟩) (block_setCell (k := 7) (v := .int .i64 0) (block_setCell (k := 6) (v := .bool false) (block_setCell (k := 5) (v := .bool false) (block_setCell (k := 4) (v := .int .i64 0) (block_setCell (k := 3) (v := .int .i64 0) (block_setCell (k := 2) (v := .int .i64 0) (block_setCell (k := 1) (v := .int .i64 0) (block_setCell (k := 0) (v := .int .i64 0) Hr.out))))))))) rfl
    refine bodyPost_ret (v := .tuple #[.agg #[.int .i64 0, .int .i64 0, .int .i64 0, .int .i64 0, .int .i64 0, .bool false, .bool false, .int .i64 0, .string ⟨#[]⟩], .int .i64 60]) ?_ rfl ⟨rfl, (Below.setCell (Below.setCell (Below.setCell (Below.setCell (Below.setCell (Below.setCell (Below.setCell (Below.setCell (Below.setCell HB (by simp) _) (by simp) _) (by simp) _) (by simp) _) (by simp) _) (by simp) _) (by simp) _) (by simp) _) (by simp) _)⟩
    exact res_cell_tmp Tryd.results31 HZ rfl Tryd.underlying37 rfl (by kernel_rfl)

end Go.Proofs.YtloialpcdedekaaDoor.Ip

namespace Go.Proofs.YtloialpcdedekaaDoor.Ip
set_option maxRecDepth 100000
open Go.RowKit Go.Proofs.YtloialpcdedekaaDoor.Wire

/-- the number in k bytes from a on -/
def nAt (s : ByteArray) (a k : Nat) : Int := num (bytesAt s a k)
def dfOf (s : ByteArray) : Bool := bits .and .i64 (nAt s 13 1) 1 != 0
def mfOf (s : ByteArray) : Bool := bits .and .i64 (nAt s 13 1) 2 != 0
/-- the first 20 bytes are the header of a valid datagram -/
def dV (s : ByteArray) : Prop := 20 ≤ s.size ∧ nAt s 0 1 = 4 ∧ VLen (nAt s 1 4) (nAt s 5 4) (nAt s 9 1) (nAt s 10 1) (nAt s 11 2) (dfOf s) (mfOf s) (8 * nAt s 14 2) (nAt s 16 2) ∧ hdr (nAt s 1 4) (nAt s 5 4) (nAt s 9 1) (nAt s 10 1) (nAt s 11 2) (dfOf s) (mfOf s) (8 * nAt s 14 2) (nAt s 16 2) = s.data.toList.take 20
theorem nAt_bd (s : ByteArray) (a k : Nat) : 0 ≤ nAt s a k ∧ nAt s a k < 256 ^ k := by
  have h := num_bd (bytesAt s a k)
  have hl := bytesAt_len_le s a k
  have hp : (256 : Int) ^ (bytesAt s a k).length ≤ 256 ^ k := by
    have := Nat.pow_le_pow_right (n := 256) (by omega) hl
    have e : ∀ n : Nat, (256 : Int) ^ n = ((256 ^ n : Nat) : Int) := fun n => by rw [Int.natCast_pow]; rfl
    rw [e, e]; exact Int.ofNat_le.2 this
  unfold nAt; omega
theorem take20 (s : ByteArray) : (s.extract 0 20).toList = s.data.toList.take 20 := by
  rw [ByteArray.toList_eq]; simp [ByteArray.data_extract, Array.toList_extract]
theorem dheader_true (s : ByteArray) (hs : s.size ≤ 9223372036854775807) (h : dV s) : ∀ (B : Nat) (w : World), w.heap[B]? = some (.cells #[.string s, .int .i64 0, .bool false, .int .i64 0, .int .i64 0, .int .i64 0, .int .i64 0, .int .i64 0, .bool false, .bool false, .int .i64 0, .string ⟨#[]⟩, .int .i64 0] 112) → Calls Tryd.prog 50 #[.pointer (some ⟨B, 0, none⟩)] w fun e w' => e = .returned (.bool true) ∧ w'.heap[B]? = some (.cells #[.string s, .int .i64 20, .bool false, .int .i64 (nAt s 1 4), .int .i64 (nAt s 5 4), .int .i64 (nAt s 9 1), .int .i64 (nAt s 10 1), .int .i64 (nAt s 11 2), .bool (dfOf s), .bool (mfOf s), .int .i64 (8 * nAt s 14 2), .string ⟨#[]⟩, .int .i64 (nAt s 16 2)] 112) ∧ w.grownBy w' (some B) := by
  intro B w hB
  obtain ⟨h1, h2, h3, h4⟩ := h
  have b7 := nAt_bd s 14 2
  have b8 := nAt_bd s 16 2
  refine dheader_long B s w (nAt s 0 1) (nAt s 1 4) (nAt s 5 4) (nAt s 9 1) (nAt s 10 1) (nAt s 11 2) (nAt s 13 1) (nAt s 14 2) (nAt s 16 2) (nAt s 18 2) (dfOf s) (mfOf s) true (hdr (nAt s 1 4) (nAt s 5 4) (nAt s 9 1) (nAt s 10 1) (nAt s 11 2) (dfOf s) (mfOf s) (8 * nAt s 14 2) (nAt s 16 2)) hB h1 hs (Lib.hid rfl) (Lib.hid rfl) (Lib.hid rfl) (Lib.hid rfl) (Lib.hid rfl) (Lib.hid rfl) (Lib.hid rfl) (Lib.hid rfl) (Lib.hid rfl) (Lib.hid rfl) (by simp [h2]) rfl rfl (by omega) (by omega) (Lib.hid fun w => header_ok _ _ _ _ _ _ _ _ ⟨#[]⟩ _ w b8.1 h3) ?_
  rw [take20, h4]; simp
theorem dheader_false (s : ByteArray) (hs : s.size ≤ 9223372036854775807) (h : ¬ dV s) : ∀ (B : Nat) (w : World), w.heap[B]? = some (.cells #[.string s, .int .i64 0, .bool false, .int .i64 0, .int .i64 0, .int .i64 0, .int .i64 0, .int .i64 0, .bool false, .bool false, .int .i64 0, .string ⟨#[]⟩, .int .i64 0] 112) → Calls Tryd.prog 50 #[.pointer (some ⟨B, 0, none⟩)] w fun e w' => e = .returned (.bool false) ∧ w.grownBy w' (some B) := by
  intro B w hB
  rcases Nat.lt_or_ge s.size 1 with c | c1
  · exact dheader_empty B s w hB (by omega)
  by_cases hv : nAt s 0 1 = 4
  · rcases Nat.lt_or_ge s.size 20 with c | c20
    · exact dheader_short B s w hB c1 c hs (Lib.hid hv)
    · have b7 := nAt_bd s 14 2
      have b8 := nAt_bd s 16 2
      by_cases h3 : VLen (nAt s 1 4) (nAt s 5 4) (nAt s 9 1) (nAt s 10 1) (nAt s 11 2) (dfOf s) (mfOf s) (8 * nAt s 14 2) (nAt s 16 2)
      · refine (dheader_long B s w (nAt s 0 1) (nAt s 1 4) (nAt s 5 4) (nAt s 9 1) (nAt s 10 1) (nAt s 11 2) (nAt s 13 1) (nAt s 14 2) (nAt s 16 2) (nAt s 18 2) (dfOf s) (mfOf s) false (hdr (nAt s 1 4) (nAt s 5 4) (nAt s 9 1) (nAt s 10 1) (nAt s 11 2) (dfOf s) (mfOf s) (8 * nAt s 14 2) (nAt s 16 2)) hB c20 hs (Lib.hid rfl) (Lib.hid rfl) (Lib.hid rfl) (Lib.hid rfl) (Lib.hid rfl) (Lib.hid rfl) (Lib.hid rfl) (Lib.hid rfl) (Lib.hid rfl) (Lib.hid rfl) (by simp [hv]) rfl rfl (by omega) (by omega) (Lib.hid fun w => header_ok _ _ _ _ _ _ _ _ ⟨#[]⟩ _ w b8.1 h3) ?_).mono fun _ _ ⟨a, _, b⟩ => ⟨a, b⟩
        rw [take20]
        simp only [beq_eq_false_iff_ne]
        exact fun he => h ⟨c20, hv, h3, he⟩
      · refine (dheader_long B s w (nAt s 0 1) (nAt s 1 4) (nAt s 5 4) (nAt s 9 1) (nAt s 10 1) (nAt s 11 2) (nAt s 13 1) (nAt s 14 2) (nAt s 16 2) (nAt s 18 2) (dfOf s) (mfOf s) false [] hB c20 hs (Lib.hid rfl) (Lib.hid rfl) (Lib.hid rfl) (Lib.hid rfl) (Lib.hid rfl) (Lib.hid rfl) (Lib.hid rfl) (Lib.hid rfl) (Lib.hid rfl) (Lib.hid rfl) (by simp [hv]) rfl rfl (by omega) (by omega) (Lib.hid fun w => header_no _ _ _ _ _ _ _ _ ⟨#[]⟩ _ w b8.1 (by omega) h3) ?_).mono fun _ _ ⟨a, _, b⟩ => ⟨a, b⟩
        rw [take20]
        simp only [beq_eq_false_iff_ne]
        intro he
        have := congrArg List.length he
        have e2 : s.data.toList.length = s.size := rfl
        rw [List.length_take, e2] at this
        simp at this; omega
  · exact dheader_ver B s w (nAt s 0 1) hB c1 hs (Lib.hid rfl) (by simpa using hv)

/-- what DecodeHeader accepts, what Decode accepts -/
def dhOk (s : ByteArray) : Prop := dV s ∧ ((s.size - 20 : Nat) : Int) ≤ nAt s 16 2
def dcOk (s : ByteArray) : Prop := dV s ∧ ((s.size - 20 : Nat) : Int) = nAt s 16 2
def pkOf (s : ByteArray) : Value := .agg #[.int .i64 (nAt s 1 4), .int .i64 (nAt s 5 4), .int .i64 (nAt s 9 1), .int .i64 (nAt s 10 1), .int .i64 (nAt s 11 2), .bool (dfOf s), .bool (mfOf s), .int .i64 (8 * nAt s 14 2), .string (s.extract 20 s.size)]
def pk0 : Value := .agg #[.int .i64 0, .int .i64 0, .int .i64 0, .int .i64 0, .int .i64 0, .bool false, .bool false, .int .i64 0, .string ⟨#[]⟩]
theorem DecodeHeader_ok (s : ByteArray) (w : World) (hs : s.size ≤ 9223372036854775807) (h : dhOk s) :
    Calls Tryd.prog 31 #[.string s] w fun e w' => e = .returned (.tuple #[pkOf s, .int .i64 0]) ∧ Below w.heap.size w w' :=
  DecodeHeader_good s w _ _ _ _ _ (nAt s 14 2) _ _ _ h.1.1 hs (by have := h.2; simp; omega) (Lib.hid (dheader_true s hs h.1))
theorem DecodeHeader_no (s : ByteArray) (w : World) (hs : s.size ≤ 9223372036854775807) (h : ¬ dhOk s) :
    Calls Tryd.prog 31 #[.string s] w fun e w' => e = .returned (.tuple #[pk0, .int .i64 60]) ∧ Below w.heap.size w w' := by
  by_cases hd : dV s
  · have hl : ¬ ((s.size - 20 : Nat) : Int) ≤ nAt s 16 2 := fun q => h ⟨hd, q⟩
    exact DecodeHeader_long s w _ _ _ _ _ (nAt s 14 2) _ _ _ hd.1 hs (by simp; omega) (Lib.hid (dheader_true s hs hd))
  · exact DecodeHeader_bad s w (Lib.hid (dheader_false s hs hd))
end Go.Proofs.YtloialpcdedekaaDoor.Ip

namespace Go.Proofs.YtloialpcdedekaaDoor.Ip
set_option maxRecDepth 100000
open Go.RowKit Go.Proofs.YtloialpcdedekaaDoor.Wire

/-- a valid datagram -/
def Pk.ok (p : Pk) : Prop := VLen p.f p.t p.pr p.ttl p.id p.df p.mf p.off p.s.size
/-- its header, and its encoding -/
def hd (p : Pk) (n : Int) : List UInt8 := hdr p.f p.t p.pr p.ttl p.id p.df p.mf p.off n
def encP (p : Pk) : List UInt8 := hd p p.s.size ++ p.s.data.toList
theorem encP_length (p : Pk) : (encP p).length = 20 + p.s.size := by
  unfold encP hd
  rw [List.length_append, hdr_length]; rfl
theorem midL (x y z : List UInt8) (a k : Nat) (hx : x.length = a) (hy : y.length = k) : ((x ++ (y ++ z)).drop a).take k = y := by
  subst hx; subst hy; simp
theorem mid_num (L x z : List UInt8) (a k : Nat) (n : Int) (h : L = x ++ (be k n ++ z)) (hx : x.length = a) (h0 : 0 ≤ n) (h1 : n < 256 ^ k) : nAt ⟨L.toArray⟩ a k = n := by
  show num ((L.drop a).take k) = n
  rw [h, midL x (be k n) z a k hx (be_length k n), num_be k n h0 h1]
theorem dfOf_eq (s : ByteArray) (df mf : Bool) (h : nAt s 13 1 = flagsOf df mf) : dfOf s = df ∧ mfOf s = mf := by
  unfold dfOf mfOf
  rw [h]
  cases df <;> cases mf <;> decide
/-- the fields that stand in any string which begins with the header -/
theorem fields (p : Pk) (n : Int) (z : List UInt8) (h : VLen p.f p.t p.pr p.ttl p.id p.df p.mf p.off n) (h0 : 0 ≤ n) :
    nAt ⟨(hd p n ++ z).toArray⟩ 0 1 = 4 ∧ nAt ⟨(hd p n ++ z).toArray⟩ 1 4 = p.f ∧ nAt ⟨(hd p n ++ z).toArray⟩ 5 4 = p.t ∧ nAt ⟨(hd p n ++ z).toArray⟩ 9 1 = p.pr ∧ nAt ⟨(hd p n ++ z).toArray⟩ 10 1 = p.ttl ∧ nAt ⟨(hd p n ++ z).toArray⟩ 11 2 = p.id ∧
      dfOf ⟨(hd p n ++ z).toArray⟩ = p.df ∧ mfOf ⟨(hd p n ++ z).toArray⟩ = p.mf ∧ 8 * nAt ⟨(hd p n ++ z).toArray⟩ 14 2 = p.off ∧ nAt ⟨(hd p n ++ z).toArray⟩ 16 2 = n := by
  obtain ⟨f, t, pr, ttl, id, df, mf, off, s⟩ := p
  obtain ⟨⟨a1, a2, a3, a4⟩, ⟨a5, a6, a7, a8, a9, a10⟩, ⟨a11, a12, a13, a14⟩, -, -, -⟩ := h
  have hfl := flagsOf_bd df mf
  dsimp only at *
  generalize hc : be 2 (csum ⟨(front f t pr ttl id df mf off n ++ [0, 0]).toArray⟩) = c
  have hL : hd ⟨f, t, pr, ttl, id, df, mf, off, s⟩ n ++ z = be 1 4 ++ (be 4 f ++ (be 4 t ++ (be 1 pr ++ (be 1 ttl ++ (be 2 id ++ (be 1 (flagsOf df mf) ++ (be 2 (off / 8) ++ (be 2 n ++ (c ++ z))))))))) := by
    unfold hd hdr; dsimp only; rw [hc]; simp [front, parts]
  rw [hL]
  have hdm := dfOf_eq ⟨(be 1 4 ++ (be 4 f ++ (be 4 t ++ (be 1 pr ++ (be 1 ttl ++ (be 2 id ++ (be 1 (flagsOf df mf) ++ (be 2 (off / 8) ++ (be 2 n ++ (c ++ z)))))))))).toArray⟩ df mf
    (mid_num _ (be 1 4 ++ be 4 f ++ be 4 t ++ be 1 pr ++ be 1 ttl ++ be 2 id) _ 13 1 (flagsOf df mf) (by simp only [List.append_assoc]; rfl) (by simp [be_length]) hfl.1 (by omega))
  refine ⟨mid_num _ [] _ 0 1 4 rfl rfl (by omega) (by omega), mid_num _ (be 1 4) _ 1 4 f rfl (by simp [be_length]) (by omega) (by omega), mid_num _ (be 1 4 ++ be 4 f) _ 5 4 t (by simp only [List.append_assoc]; rfl) (by simp [be_length]) (by omega) (by omega),
    mid_num _ (be 1 4 ++ be 4 f ++ be 4 t) _ 9 1 pr (by simp only [List.append_assoc]; rfl) (by simp [be_length]) (by omega) (by omega), mid_num _ (be 1 4 ++ be 4 f ++ be 4 t ++ be 1 pr) _ 10 1 ttl (by simp only [List.append_assoc]; rfl) (by simp [be_length]) (by omega) (by omega),
    mid_num _ (be 1 4 ++ be 4 f ++ be 4 t ++ be 1 pr ++ be 1 ttl) _ 11 2 id (by simp only [List.append_assoc]; rfl) (by simp [be_length]) (by omega) (by omega), hdm.1, hdm.2, ?_, ?_⟩
  · rw [mid_num _ (be 1 4 ++ be 4 f ++ be 4 t ++ be 1 pr ++ be 1 ttl ++ be 2 id ++ be 1 (flagsOf df mf)) _ 14 2 (off / 8) (by simp only [List.append_assoc]; rfl) (by simp [be_length]) (by omega) (by omega)]
    omega
  · exact mid_num _ (be 1 4 ++ be 4 f ++ be 4 t ++ be 1 pr ++ be 1 ttl ++ be 2 id ++ be 1 (flagsOf df mf) ++ be 2 (off / 8)) _ 16 2 n (by simp only [List.append_assoc]; rfl) (by simp [be_length]) (by omega) (by omega)
theorem hd_length (p : Pk) (n : Int) : (hd p n).length = 20 := hdr_length _ _ _ _ _ _ _ _ _
theorem dV_of (p : Pk) (n : Int) (z : List UInt8) (h : VLen p.f p.t p.pr p.ttl p.id p.df p.mf p.off n) (h0 : 0 ≤ n) : dV ⟨(hd p n ++ z).toArray⟩ := by
  obtain ⟨e0, e1, e2, e3, e4, e5, e6, e7, e8, e9⟩ := fields p n z h h0
  refine ⟨?_, e0, ?_, ?_⟩
  · rw [sz, List.length_append, hd_length]; omega
  · rw [e1, e2, e3, e4, e5, e6, e7, e8, e9]; exact h
  · rw [e1, e2, e3, e4, e5, e6, e7, e8, e9]
    show hd p n = (hd p n ++ z).take 20
    rw [List.take_append_of_le_length (by rw [hd_length]; omega), List.take_of_length_le (by rw [hd_length]; omega)]
theorem extract20 (l z : List UInt8) (h : l.length = 20) : (⟨(l ++ z).toArray⟩ : ByteArray).extract 20 (⟨(l ++ z).toArray⟩ : ByteArray).size = ⟨z.toArray⟩ := by
  apply ByteArray.ext
  apply Array.ext'
  rw [sz, ByteArray.data_extract]
  simp [h]
theorem pkOf_of (p : Pk) (n : Int) (z : List UInt8) (h : VLen p.f p.t p.pr p.ttl p.id p.df p.mf p.off n) (h0 : 0 ≤ n) : pkOf ⟨(hd p n ++ z).toArray⟩ = { p with s := ⟨z.toArray⟩ : Pk }.val := by
  obtain ⟨e0, e1, e2, e3, e4, e5, e6, e7, e8, e9⟩ := fields p n z h h0
  unfold pkOf Pk.val
  rw [e1, e2, e3, e4, e5, e6, e7, e8, extract20 _ _ (hd_length p n)]
/-- Decode inverts Encode -/
theorem enc_dcOk (p : Pk) (h : p.ok) : dcOk ⟨(encP p).toArray⟩ := by
  refine ⟨dV_of p p.s.size p.s.data.toList h (by omega), ?_⟩
  unfold encP
  rw [(fields p p.s.size p.s.data.toList h (by omega)).2.2.2.2.2.2.2.2.2, sz, List.length_append, hd_length]
  have : p.s.data.toList.length = p.s.size := rfl
  omega
theorem enc_pkOf (p : Pk) (h : p.ok) : pkOf ⟨(encP p).toArray⟩ = p.val := by
  unfold encP
  rw [pkOf_of p p.s.size p.s.data.toList h (by omega)]
/-- a truncated encoding -/
theorem cut_enc (p : Pk) (n : Nat) (h : 20 ≤ n) : (encP p).take n = hd p p.s.size ++ p.s.data.toList.take (n - 20) := by
  unfold encP
  rw [List.take_append, hd_length, List.take_of_length_le (by rw [hd_length]; exact h)]
theorem cut_dhOk (p : Pk) (hp : p.ok) (n : Nat) (h : 20 ≤ n) : dhOk ⟨((encP p).take n).toArray⟩ := by
  rw [cut_enc p n h]
  refine ⟨dV_of p p.s.size _ hp (by omega), ?_⟩
  rw [(fields p p.s.size (p.s.data.toList.take (n - 20)) hp (by omega)).2.2.2.2.2.2.2.2.2, sz, List.length_append, hd_length, List.length_take]
  have : p.s.data.toList.length = p.s.size := rfl
  omega
theorem cut_pkOf (p : Pk) (hp : p.ok) (n : Nat) (h : 20 ≤ n) : pkOf ⟨((encP p).take n).toArray⟩ = { p with s := ⟨(p.s.data.toList.take (n - 20)).toArray⟩ : Pk }.val := by
  rw [cut_enc p n h, pkOf_of p p.s.size _ hp (by omega)]
theorem short_no (s : ByteArray) (h : s.size < 20) : ¬ dV s := fun q => by have := q.1; omega
/-- distinct datagrams have distinct encodings -/
theorem val_inj {p q : Pk} (h : p.val = q.val) : p = q := by
  obtain ⟨f, t, pr, ttl, id, df, mf, off, s⟩ := p
  obtain ⟨f', t', pr', ttl', id', df', mf', off', s'⟩ := q
  simp only [Pk.val, Value.agg.injEq, Array.mk.injEq, List.cons.injEq, Value.int.injEq, Value.bool.injEq, Value.string.injEq, true_and, and_true] at h
  obtain ⟨rfl, rfl, rfl, rfl, rfl, rfl, rfl, rfl, rfl⟩ := h
  rfl
theorem enc_injP (p q : Pk) (hp : p.ok) (hq : q.ok) (h : encP p = encP q) : p = q :=
  val_inj (by rw [← enc_pkOf p hp, h, enc_pkOf q hq])
/-- the sum of the words of a header -/
theorem dV_sum (s : ByteArray) (h : dV s) : ws (s.data.toList.take 20) % 65535 = 0 := by
  obtain ⟨h20, -, -, he⟩ := h
  rw [← he]
  unfold hdr
  generalize hF : front (nAt s 1 4) (nAt s 5 4) (nAt s 9 1) (nAt s 10 1) (nAt s 11 2) (dfOf s) (mfOf s) (8 * nAt s 14 2) (nAt s 16 2) = F
  have hl : F.length = 18 := by rw [← hF]; exact front_length _ _ _ _ _ _ _ _ _
  have hm := csum_mod (F ++ [0, 0])
  have hb := csum_bd ⟨(F ++ [0, 0]).toArray⟩
  rw [ws_append _ _ (by omega)] at hm
  rw [ws_append _ _ (by omega), ws_be2 _ hb.1 (by omega)]
  have : ws [0, 0] = 0 := by decide
  omega
/-- one byte of the header changed: refused -/
theorem flip_no (R : List UInt8) (h : dV ⟨R.toArray⟩) (k : Nat) (hk : k < 20) (hR : 20 ≤ R.length) (v : UInt8) (hv : v ≠ R[k]'(by omega)) : ¬ dV ⟨(R.set k v).toArray⟩ := by
  intro h'
  have h1 := dV_sum _ h
  have h2 := dV_sum _ h'
  have e1 : (⟨R.toArray⟩ : ByteArray).data.toList.take 20 = R.take 20 := by simp
  have e2 : (⟨(R.set k v).toArray⟩ : ByteArray).data.toList.take 20 = (R.take 20).set k v := by simp [List.take_set]
  rw [e1] at h1
  rw [e2, ws_set _ _ _ (by rw [List.length_take]; omega)] at h2
  rw [List.getElem_take] at h2
  have hb1 := u8_bd v
  have hb2 := u8_bd (R[k]'(by omega))
  have hne : (v.toNat : Int) ≠ ((R[k]'(by omega)).toNat : Int) := fun q => hv (UInt8.toNat_inj.1 (Int.ofNat_inj.1 q))
  split at h2 <;> omega
end Go.Proofs.YtloialpcdedekaaDoor.Ip
