/-
  IP datagrams: decode, fragments; what a join uses of them (several texts in one).
-/
import Derived.Test.YtmgjcjacoegocaaGreatDoorBase1
import Derived.Test.YtmgjcjacoegocaaGreatDoorRows
import Derived.Test.YtmgjcjacoegocaaGreatDoorBase2
import Derived.Test.YtmgjcjacoegocaaGreatDoorPlain
import Derived.Deep.DeepCutAuto
import Derived.Laws.Rows
import Derived.Outline
import Derived.Deep.RegionHeld3
import Derived.Deep.RegionWith
import Derived.Deep.QuietTactic
import Derived.BigQuiet
import Derived.Deep.DrawnRows
import Derived.BigGuardPart
import Derived.Test.YtmgjcjacoegocaaGreatDoorCheck
import Derived.Deep.AppendLies
import Derived.Laws.OwnMore
import Derived.Test.YtmgjcjacoegocaaGreatDoorUdpM
namespace Go.Proofs.YtmgjcjacoegocaaGreatDoor.Ip
set_option maxRecDepth 100000
open Go.RowKit Go.Proofs.YtmgjcjacoegocaaGreatDoor.Wire

def VLen (f t pr ttl id : Int) (df mf : Bool) (off len : Int) : Prop :=
  (1 ≤ f ∧ f ≤ 4294967294 ∧ 1 ≤ t ∧ t ≤ 4294967295) ∧ (0 ≤ pr ∧ pr ≤ 255 ∧ 1 ≤ ttl ∧ ttl ≤ 255 ∧ 0 ≤ id ∧ id ≤ 65535) ∧ (0 ≤ off ∧ off ≤ 4000 ∧ off % 8 = 0 ∧ off + len ≤ 4000) ∧ (mf = true → len ≠ 0 ∧ len % 8 = 0) ∧ (0 < off → len ≠ 0) ∧ (df = true → mf = false ∧ off = 0)
instance (f t pr ttl id : Int) (df mf : Bool) (off len : Int) : Decidable (VLen f t pr ttl id df mf off len) := by unfold VLen; infer_instance
def vlenB (f t pr ttl id : Int) (df mf : Bool) (off len : Int) : Bool := decide (VLen f t pr ttl id df mf off len)

set_option maxRecDepth 100000 in
set_option maxHeartbeats 4000000 in
theorem validLength_any (f t pr ttl id : Int) (df mf : Bool) (off : Int) (s : ByteArray) (len : Int) (w : World) (h0 : 0 ≤ len) (h1 : len ≤ 9223372036854775807) :
    Calls Tryz.prog 89 #[.agg #[.int .i64 f, .int .i64 t, .int .i64 pr, .int .i64 ttl, .int .i64 id, .bool df, .bool mf, .int .i64 off, .string s], .int .i64 len] w fun e w' => e = .returned (.bool (vlenB f t pr ttl id df mf off len)) ∧ Below w.heap.size w w' := by
  cases df <;> cases mf
  all_goals
    go_enter Tryz.func89, Tryz.ntmps89
    go_wp2
  all_goals
    go_ret
    refine ⟨ret_bool ?_, (Below.refl _ _).alloc (Nat.le_refl _) _⟩
  all_goals
    (try simp only [beq_iff_eq, beq_eq_false_iff_ne, bne_iff_ne, bne_eq_false_iff_eq, Bool.not_eq_true', Bool.not_eq_false', decide_eq_true_eq, decide_eq_false_iff_not, ne_eq] at *)
    first
      | (refine (decide_eq_false (fun h => ?_)).symm; unfold VLen at h; first | (simp at h; done) | (simp at h; omega))
      | (refine (decide_eq_true ?_).symm; unfold VLen; simp; omega)
      | (unfold vlenB VLen; rw [Bool.eq_iff_iff]; simp; omega)

def pkV (f t pr ttl id : Int) (df mf : Bool) (off : Int) (s : ByteArray) : Value := .agg #[.int .i64 f, .int .i64 t, .int .i64 pr, .int .i64 ttl, .int .i64 id, .bool df, .bool mf, .int .i64 off, .string s]
theorem valid_any (f t pr ttl id : Int) (df mf : Bool) (off : Int) (s : ByteArray) (w : World) (hs : s.size ≤ 9223372036854775807) :
    Calls Tryz.prog 44 #[.agg #[.int .i64 f, .int .i64 t, .int .i64 pr, .int .i64 ttl, .int .i64 id, .bool df, .bool mf, .int .i64 off, .string s]] w fun e w' => e = .returned (.bool (vlenB f t pr ttl id df mf off s.size)) ∧ Below w.heap.size w w' := by
  go_enter Tryz.func44, Tryz.ntmps44
  go_wp2_with fail
  refine (validLength_any f t pr ttl id df mf off s s.size _ (by omega) (by omega)).mono ?_
  rintro e w1 ⟨rfl, hb1⟩
  go_wp2_with fail
  go_ret
  exact ⟨rfl, below_call (below_alloc (Below.refl _ _)) hb1⟩
end Go.Proofs.YtmgjcjacoegocaaGreatDoor.Ip

namespace Go.Proofs.YtmgjcjacoegocaaGreatDoor.Ip
set_option maxRecDepth 100000
open Go.RowKit Go.Proofs.YtmgjcjacoegocaaGreatDoor.Wire

def flagsOf (df mf : Bool) : Int := (if df then 1 else 0) + (if mf then 2 else 0)
theorem flagsOf_bd (df mf : Bool) : 0 ≤ flagsOf df mf ∧ flagsOf df mf ≤ 3 := by cases df <;> cases mf <;> decide
def parts (f t pr ttl id fl off len : Int) : List (List UInt8) := [be 1 4, be 4 f, be 4 t, be 1 pr, be 1 ttl, be 2 id, be 1 fl, be 2 (off / 8), be 2 len]
def front (f t pr ttl id : Int) (df mf : Bool) (off len : Int) : List UInt8 := (parts f t pr ttl id (flagsOf df mf) off len).flatten
def hdr (f t pr ttl id : Int) (df mf : Bool) (off len : Int) : List UInt8 := front f t pr ttl id df mf off len ++ be 2 (csum ⟨(front f t pr ttl id df mf off len ++ [0, 0]).toArray⟩)

theorem ret2_str {a b : ByteArray} {v : Value} (h : a = b) : Ending.returned (.tuple #[.string a, v]) = .returned (.tuple #[.string b, v]) := by rw [h]
theorem ba_append_s (l : List UInt8) (s : ByteArray) : (⟨l.toArray⟩ : ByteArray) ++ s = ⟨(l ++ s.data.toList).toArray⟩ := by
  apply ByteArray.ext
  simp [ByteArray.data_append]
theorem csum_bd (s : ByteArray) : 0 ≤ csum s ∧ csum s ≤ 65535 := by
  have h := total_bd s ((s.size + 1) / 2)
  unfold csum wsum fold
  split <;> omega
theorem ba_append2 (l : List UInt8) : (⟨l.toArray⟩ : ByteArray) ++ ⟨#[0, 0]⟩ = ⟨(l ++ [0, 0]).toArray⟩ := ba_append l [0, 0]
theorem parts_len (f t pr ttl id fl off len : Int) (k : Nat) : ((parts f t pr ttl id fl off len).take k).flatten.length ≤ 18 := by
  have h : (parts f t pr ttl id fl off len).flatten.length = 18 := by simp [parts, be_length]
  have h2 := congrArg List.flatten (List.take_append_drop k (parts f t pr ttl id fl off len))
  rw [List.flatten_append] at h2
  have h3 := congrArg List.length h2
  rw [List.length_append, h] at h3
  omega
theorem idx9 (f t pr ttl id fl off len : Int) (h1 : 0 ≤ f ∧ f < 4294967296) (h2 : 0 ≤ t ∧ t < 4294967296) (h3 : 0 ≤ pr ∧ pr < 256) (h4 : 0 ≤ ttl ∧ ttl < 256) (h5 : 0 ≤ id ∧ id < 65536) (h6 : 0 ≤ fl ∧ fl < 256) (h7 : 0 ≤ off / 8 ∧ off / 8 < 65536) (h8 : 0 ≤ len ∧ len < 65536) (k : Nat) (hk : k < 9) :
    ∃ n b : Int, (∀ W, (Instr.index 209 (.agg #[.int .i64 4, .int .i64 1, .int .i64 f, .int .i64 4, .int .i64 t, .int .i64 4, .int .i64 pr, .int .i64 1, .int .i64 ttl, .int .i64 1, .int .i64 id, .int .i64 2, .int .i64 fl, .int .i64 1, .int .i64 (off / 8), .int .i64 2, .int .i64 len, .int .i64 2]) (.int .i64 (k : Int))).run Tryz.prog W = .ok (.agg #[.int .i64 n, .int .i64 b]) W) ∧ 1 ≤ b ∧ b ≤ 4 ∧ 0 ≤ n ∧ n < 256 ^ b.toNat ∧
      ((parts f t pr ttl id fl off len).take (k + 1)).flatten = ((parts f t pr ttl id fl off len).take k).flatten ++ be b.toNat n := by
  match k, hk with
  | 0, _ => exact ⟨4, 1, fun _ => by kernel_rfl, by omega, by omega, by omega, by simp, by simp [parts]⟩
  | 1, _ => exact ⟨f, 4, fun _ => by kernel_rfl, by omega, by omega, by omega, by simp; omega, by simp [parts]⟩
  | 2, _ => exact ⟨t, 4, fun _ => by kernel_rfl, by omega, by omega, by omega, by simp; omega, by simp [parts]⟩
  | 3, _ => exact ⟨pr, 1, fun _ => by kernel_rfl, by omega, by omega, by omega, by simp; omega, by simp [parts]⟩
  | 4, _ => exact ⟨ttl, 1, fun _ => by kernel_rfl, by omega, by omega, by omega, by simp; omega, by simp [parts]⟩
  | 5, _ => exact ⟨id, 2, fun _ => by kernel_rfl, by omega, by omega, by omega, by simp; omega, by simp [parts]⟩
  | 6, _ => exact ⟨fl, 1, fun _ => by kernel_rfl, by omega, by omega, by omega, by simp; omega, by simp [parts]⟩
  | 7, _ => exact ⟨off / 8, 2, fun _ => by kernel_rfl, by omega, by omega, by omega, by simp; omega, by simp [parts]⟩
  | 8, _ => exact ⟨len, 2, fun _ => by kernel_rfl, by omega, by omega, by omega, by simp; omega, by simp [parts]⟩

set_option maxRecDepth 100000 in
set_option maxHeartbeats 4000000 in
theorem header_ok (f t pr ttl id : Int) (df mf : Bool) (off : Int) (s : ByteArray) (len : Int) (w : World) (h0 : 0 ≤ len) (h : VLen f t pr ttl id df mf off len) :
    Calls Tryz.prog 52 #[.agg #[.int .i64 f, .int .i64 t, .int .i64 pr, .int .i64 ttl, .int .i64 id, .bool df, .bool mf, .int .i64 off, .string s], .int .i64 len] w fun e w' => e = .returned (.string ⟨(hdr f t pr ttl id df mf off len).toArray⟩) ∧ Below w.heap.size w w' := by
  have HV : Hid (∀ w, Calls Tryz.prog 89 #[.agg #[.int .i64 f, .int .i64 t, .int .i64 pr, .int .i64 ttl, .int .i64 id, .bool df, .bool mf, .int .i64 off, .string s], .int .i64 len] w fun e w' => e = .returned (.bool true) ∧ Below w.heap.size w w') := Lib.hid fun w => by
    have := validLength_any f t pr ttl id df mf off s len w h0 (by unfold VLen at h; omega)
    rwa [show vlenB f t pr ttl id df mf off len = true from decide_eq_true h] at this
  obtain ⟨⟨a1, a2, a3, a4⟩, ⟨a5, a6, a7, a8, a9, a10⟩, ⟨a11, a12, a13, a14⟩, -, -, -⟩ := h
  go_enter Tryz.func52, Tryz.ntmps52
  have HB := Below.refl w.heap.size w
  have Hp := Lib.hid (alloc_new' w (.cells #[.int .i64 f, .int .i64 t, .int .i64 pr, .int .i64 ttl, .int .i64 id, .bool df, .bool mf, .int .i64 off, .string s] 48) (w.heap.size) (by simp))
  have HB' := below_alloc (o := .cells #[.int .i64 f, .int .i64 t, .int .i64 pr, .int .i64 ttl, .int .i64 id, .bool df, .bool mf, .int .i64 off, .string s] 48) HB; clear HB; have HB := HB'; clear HB'
  go_wp2_with fail
  refine (HV.out _).mono ?_
  rintro e w1 ⟨rfl, hb⟩
  have Hp' := Lib.hid (bblock hb Hp.out); clear Hp; have Hp := Hp'; clear Hp'
  have HB' := below_call HB hb; clear HB hb; have HB := HB'; clear HB'; have hz1 := HB.size
  have Sp := cells9 Hp.out
  obtain ⟨⟨qp0, qp1, qp2, qp3, qp4, qp5, qp6, qp7, qp8⟩, zp0, zp1, zp2, zp3, zp4, zp5, zp6, zp7, zp8⟩ := Sp
  have lt_p := blk_lt Hp.out
  go_upto_if 20 with fail
  go_cut [5] (fun s5 wx => s5 = .int .i64 (if df then 1 else 0) ∧ w1 = wx)
  case first =>
    cases df <;> (go_wp2_with fail; go_meet; exact ⟨rfl, rfl⟩)
  case rest =>
    obtain ⟨rfl, rfl⟩ := hcut
    go_upto_if 24 with fail
    go_cut [5] (fun s5 wx => s5 = .int .i64 (flagsOf df mf) ∧ w1 = wx)
    case first =>
      cases df <;> cases mf <;> (go_wp2_with fail; go_meet; exact ⟨rfl, rfl⟩)
    case rest =>
      obtain ⟨rfl, rfl⟩ := hcut
      have hfl := flagsOf_bd df mf; have hq8a : 0 ≤ off / 8 := (by omega); have hq8b : off / 8 ≤ 500 := (by omega)
      generalize hflq : flagsOf df mf = fl at *; have Hfl := Lib.hid hflq; clear hflq
      go_upto_region 8 with fail
      go_cut [6] (fun s6 wx => s6 = .pointer (some ⟨w1.heap.size, 0, none⟩) ∧ wx = w1.alloc (.cells #[.int .i64 4, .int .i64 1, .int .i64 f, .int .i64 4, .int .i64 t, .int .i64 4, .int .i64 pr, .int .i64 1, .int .i64 ttl, .int .i64 1, .int .i64 id, .int .i64 2, .int .i64 fl, .int .i64 1, .int .i64 (off / 8), .int .i64 2, .int .i64 len, .int .i64 2] 209))
      case first =>
        go_wp2_with fail
        go_meet
        exact ⟨rfl, rfl⟩
      case rest =>
        obtain ⟨rfl, rfl⟩ := hcut
        clear qp0 zp0 qp1 zp1 qp2 zp2 qp3 zp3 qp4 zp4 qp5 zp5 qp6 zp6 qp7 zp7 qp8 zp8
        clear Hp lt_p
        have Ha := Lib.hid (alloc_new' w1 (.cells #[.int .i64 4, .int .i64 1, .int .i64 f, .int .i64 4, .int .i64 t, .int .i64 4, .int .i64 pr, .int .i64 1, .int .i64 ttl, .int .i64 1, .int .i64 id, .int .i64 2, .int .i64 fl, .int .i64 1, .int .i64 (off / 8), .int .i64 2, .int .i64 len, .int .i64 2] 209) (w1.heap.size) (by simp))
        have HB' := below_alloc (o := .cells #[.int .i64 4, .int .i64 1, .int .i64 f, .int .i64 4, .int .i64 t, .int .i64 4, .int .i64 pr, .int .i64 1, .int .i64 ttl, .int .i64 1, .int .i64 id, .int .i64 2, .int .i64 fl, .int .i64 1, .int .i64 (off / 8), .int .i64 2, .int .i64 len, .int .i64 2] 209) HB; clear HB; have HB := HB'; clear HB'
        generalize hw2 : w1.alloc (.cells #[.int .i64 4, .int .i64 1, .int .i64 f, .int .i64 4, .int .i64 t, .int .i64 4, .int .i64 pr, .int .i64 1, .int .i64 ttl, .int .i64 1, .int .i64 id, .int .i64 2, .int .i64 fl, .int .i64 1, .int .i64 (off / 8), .int .i64 2, .int .i64 len, .int .i64 2] 209) = w2 at *; clear hw2
        go_wp2_with (refine wpList_load_row rfl 209 (.tmp 6) rfl w1.heap.size rfl 209 #[.int .i64 4, .int .i64 1, .int .i64 f, .int .i64 4, .int .i64 t, .int .i64 4, .int .i64 pr, .int .i64 1, .int .i64 ttl, .int .i64 1, .int .i64 id, .int .i64 2, .int .i64 fl, .int .i64 1, .int .i64 (off / 8), .int .i64 2, .int .i64 len, .int .i64 2] (0, 0) _ (block_alloc Ha.out _) Tryz.underlying209 rfl (by kernel_rfl) ?_)
        have HB2 := below_alloc (o := .cells #[.pointer none, .slice none 0 0] 107) HB
        have hsz2 := HB.size
        go_loopw [53] (fun i wr => ∃ k : Nat, k ≤ 9 ∧ i = .int .i64 (k : Int) ∧ IsB w2.heap.size w2.heap.size ((parts f t pr ttl id fl off len).take k).flatten wr ∧ Below w.heap.size w wr) (fun i _ => 9 - (intOf i).toNat)
        case atStart => exact ⟨0, by omega, rfl, isB_new w2, HB2⟩
        case round =>
          clear HB HB2 Ha
          obtain ⟨k, hk, rfl, HI, HB⟩ := hrel
          have HI := Lib.hid HI
          have hlen := parts_len f t pr ttl id fl off len k
          by_cases hlt : k < 9
          · obtain ⟨n, b, hidx, hb1, hb4, hn0, hn, hH⟩ := idx9 f t pr ttl id fl off len (by omega) (by omega) (by omega) (by omega) (by omega) (by omega) (by omega) (by omega) k hlt
            have HH := Lib.hid hH; have HN := Lib.hid hn; clear hH hn
            generalize ((parts f t pr ttl id fl off len).take k).flatten = L at *
            go_wp2_with fail
            refine (put_okI n b _ hb1 hb4 hn0 HN.out).mono ?_
            rintro e w3 ⟨rfl, hb⟩
            have HI' := isB_below (isB_alloc HI.out _) hb; have HB' := below_call (below_alloc HB) hb; clear HI HB hb
            have HI := Lib.hid HI'; clear HI'
            clear hidx
            go_wp2_with fail
            have hbl := be_length b.toNat n
            refine (bwrite_any _ _ L _ _ HI.out (by rw [sz, hbl]; omega)).mono ?_
            rintro e w4 ⟨rfl, HJ, hb⟩
            have HJ := Lib.hid HJ; have HB := HB'.trans (hb.mono hsz2); clear HB' hb HI hbl
            go_wp2_with fail
            go_roundw
            case rel => exact ⟨k + 1, by omega, by go_num, by rw [HH.out]; exact HJ.out, HB⟩
            case measure => simp [intOf]; omega
          · obtain rfl : k = 9 := by omega
            have HF : Hid (((parts f t pr ttl id fl off len).take 9).flatten = front f t pr ttl id df mf off len) := Lib.hid (by unfold front; rw [Hfl.out]; rfl)
            generalize ((parts f t pr ttl id fl off len).take 9).flatten = L at *
            go_wp2_with fail
            refine (bstring_any _ _ L _ HI.out).mono ?_
            rintro e w3 ⟨rfl, hb⟩
            have HB' := HB.trans (hb.mono hsz2); clear HB hb HI
            go_wp2_with fail
            refine (checksum_any _ (by simp [ByteArray.size_append, sz]; omega) _).mono ?_
            rintro e w4 ⟨rfl, hb⟩
            have HB := below_call HB' hb; clear HB' hb
            have hcb := csum_bd (⟨L.toArray⟩ ++ ⟨#[0, 0]⟩)
            generalize hcs : csum (⟨L.toArray⟩ ++ ⟨#[0, 0]⟩) = c at *; have Hcs := Lib.hid hcs; clear hcs
            go_wp2_with fail
            refine (put_okI c 2 _ (by omega) (by omega) (by omega) (by simp; omega)).mono ?_
            rintro e w5 ⟨rfl, hb⟩
            have HB' := below_call HB hb; clear HB hb
            have hbl := be_length
            go_wp2_with fail
            go_ret
            refine ⟨ret_str ?_, HB'⟩
            rw [ba_append]
            unfold hdr; rw [← HF.out, ← Hcs.out, ba_append2]

theorem header_no (f t pr ttl id : Int) (df mf : Bool) (off : Int) (s : ByteArray) (len : Int) (w : World) (h0 : 0 ≤ len) (h1 : len ≤ 9223372036854775807) (h : ¬ VLen f t pr ttl id df mf off len) :
    Calls Tryz.prog 52 #[.agg #[.int .i64 f, .int .i64 t, .int .i64 pr, .int .i64 ttl, .int .i64 id, .bool df, .bool mf, .int .i64 off, .string s], .int .i64 len] w fun e w' => e = .returned (.string ⟨#[]⟩) ∧ Below w.heap.size w w' := by
  have HV : Hid (∀ w, Calls Tryz.prog 89 #[.agg #[.int .i64 f, .int .i64 t, .int .i64 pr, .int .i64 ttl, .int .i64 id, .bool df, .bool mf, .int .i64 off, .string s], .int .i64 len] w fun e w' => e = .returned (.bool false) ∧ Below w.heap.size w w') := Lib.hid fun w => by
    have := validLength_any f t pr ttl id df mf off s len w h0 h1
    rwa [show vlenB f t pr ttl id df mf off len = false from decide_eq_false h] at this
  clear h
  go_enter Tryz.func52, Tryz.ntmps52
  go_wp2_with fail
  refine (HV.out _).mono ?_
  rintro e w1 ⟨rfl, hb1⟩
  go_wp2_with fail
  go_ret
  exact ⟨rfl, below_call (below_alloc (Below.refl _ _)) hb1⟩

theorem front_length (f t pr ttl id : Int) (df mf : Bool) (off len : Int) : (front f t pr ttl id df mf off len).length = 18 := by simp [front, parts, be_length]
theorem hdr_length (f t pr ttl id : Int) (df mf : Bool) (off len : Int) : (hdr f t pr ttl id df mf off len).length = 20 := by
  unfold hdr; rw [List.length_append, front_length, be_length]
set_option maxRecDepth 100000 in
theorem Encode_ok (f t pr ttl id : Int) (df mf : Bool) (off : Int) (s : ByteArray) (w : World) (h : VLen f t pr ttl id df mf off s.size) :
    Calls Tryz.prog 13 #[.agg #[.int .i64 f, .int .i64 t, .int .i64 pr, .int .i64 ttl, .int .i64 id, .bool df, .bool mf, .int .i64 off, .string s]] w fun e w' => e = .returned (.tuple #[.string ⟨(hdr f t pr ttl id df mf off s.size ++ s.data.toList).toArray⟩, .int .i64 0]) ∧ Below w.heap.size w w' := by
  have HH := Lib.hid fun w => header_ok f t pr ttl id df mf off s s.size w (by omega) h
  have hs : s.size ≤ 4000 := by unfold VLen at h; omega
  have hl := hdr_length f t pr ttl id df mf off s.size
  clear h
  generalize hR : hdr f t pr ttl id df mf off s.size = R at *
  have hRl : R.length ≤ 20 := by omega
  have hR1 : 1 ≤ R.length := by omega
  have hRe : R.isEmpty = false := by cases R <;> simp_all
  have hRn : (R == []) = false := by cases R <;> simp_all
  clear hR hl
  go_enter Tryz.func13, Tryz.ntmps13
  have HB := Below.refl w.heap.size w
  have Hp := Lib.hid (alloc_new' w (.cells #[.int .i64 f, .int .i64 t, .int .i64 pr, .int .i64 ttl, .int .i64 id, .bool df, .bool mf, .int .i64 off, .string s] 48) (w.heap.size) (by simp))
  have HB' := below_alloc (o := .cells #[.int .i64 f, .int .i64 t, .int .i64 pr, .int .i64 ttl, .int .i64 id, .bool df, .bool mf, .int .i64 off, .string s] 48) HB; clear HB; have HB := HB'; clear HB'
  go_wp2_with fail
  refine (HH.out _).mono ?_
  rintro e w1 ⟨rfl, hb⟩
  have Hp' := Lib.hid (bblock hb Hp.out); clear Hp; have Hp := Hp'; clear Hp'
  have HB' := below_call HB hb; clear HB hb; have HB := HB'; clear HB'; have hz1 := HB.size
  have Sp := cells9 Hp.out
  obtain ⟨⟨qp0, qp1, qp2, qp3, qp4, qp5, qp6, qp7, qp8⟩, zp0, zp1, zp2, zp3, zp4, zp5, zp6, zp7, zp8⟩ := Sp
  have lt_p := blk_lt Hp.out
  go_wp2_with fail
  go_ret2
  refine ⟨ret2_str ?_, HB⟩
  exact ba_append_s R s

theorem Encode_no (f t pr ttl id : Int) (df mf : Bool) (off : Int) (s : ByteArray) (w : World) (hs : s.size ≤ 9223372036854775807) (h : ¬ VLen f t pr ttl id df mf off s.size) :
    Calls Tryz.prog 13 #[.agg #[.int .i64 f, .int .i64 t, .int .i64 pr, .int .i64 ttl, .int .i64 id, .bool df, .bool mf, .int .i64 off, .string s]] w fun e w' => e = .returned (.tuple #[.string ⟨#[]⟩, .int .i64 60]) ∧ Below w.heap.size w w' := by
  have HH := Lib.hid fun w => header_no f t pr ttl id df mf off s s.size w (by omega) (by omega) h
  clear h
  go_enter Tryz.func13, Tryz.ntmps13
  go_wp2_with fail
  refine (HH.out _).mono ?_
  rintro e w1 ⟨rfl, hb1⟩
  go_wp2_with fail
  go_ret2
  exact ⟨rfl, below_call (below_alloc (Below.refl _ _)) hb1⟩
end Go.Proofs.YtmgjcjacoegocaaGreatDoor.Ip

namespace Go.Proofs.YtmgjcjacoegocaaGreatDoor.Ip
set_option maxRecDepth 100000
open Go.RowKit Go.Proofs.YtmgjcjacoegocaaGreatDoor.Wire

theorem get_okI (s : ByteArray) (a k : Int) (w : World) (h1 : 1 ≤ k) (h4 : k ≤ 4) (h0 : 0 ≤ a) (ha : a + k ≤ s.size) (hm : s.size ≤ 9223372036854775807) :
    Calls Tryz.prog 26 #[.string s, .int .i64 a, .int .i64 k] w fun e w' => e = .returned (.tuple #[.int .i64 (num (bytesAt s a.toNat k.toNat)), .int .i64 0]) ∧ Below w.heap.size w w' := by
  have hb : k = 1 ∨ k = 2 ∨ k = 3 ∨ k = 4 := by omega
  rcases hb with rfl | rfl | rfl | rfl
  · exact getv1 s a w h0 ha hm
  · exact getv2 s a w h0 ha hm
  · exact getv3 s a w h0 ha hm
  · exact getv4 s a w h0 ha hm
theorem get_noI (s : ByteArray) (a k : Int) (w : World) (hm : s.size ≤ 9223372036854775807) (h : ¬ (1 ≤ k ∧ k ≤ 4 ∧ 0 ≤ a ∧ a + k ≤ s.size)) :
    Calls Tryz.prog 26 #[.string s, .int .i64 a, .int .i64 k] w fun e w' => e = .returned (.tuple #[.int .i64 0, .int .i64 10]) ∧ Below w.heap.size w w' :=
  (get_no s a k w hm h).mono fun _ _ ⟨he, hw⟩ => ⟨he, hw ▸ Below.refl _ _⟩

set_option maxRecDepth 100000 in
set_option maxHeartbeats 1000000 in
theorem number_ok (B : Nat) (s : ByteArray) (a k : Int) (sh : Bool) (v3 v4 v5 v6 v7 v8 v9 v10 v11 v12 : Value) (w : World) (hB : w.heap[B]? = some (.cells #[.string s, .int .i64 a, .bool sh, v3, v4, v5, v6, v7, v8, v9, v10, v11, v12] 158)) (h0 : 0 ≤ a) (h1 : 1 ≤ k) (h4 : k ≤ 4) (hk : a + k ≤ s.size) (hs : s.size ≤ 9223372036854775807) :
    Calls Tryz.prog 100 #[.pointer (some ⟨B, 0, none⟩), .int .i64 k] w fun e w' => e = .returned (.int .i64 (num (bytesAt s a.toNat k.toNat))) ∧ w'.heap[B]? = some (.cells #[.string s, .int .i64 (a + k), .bool sh, v3, v4, v5, v6, v7, v8, v9, v10, v11, v12] 158) ∧ w.grownBy w' (some B) := by
  have HG := Lib.hid fun w => get_okI s a k w (by omega) (by omega) (by omega) (by omega) hs
  generalize num (bytesAt s a.toNat k.toNat) = N at *
  have Hd := Lib.hid hB; clear hB
  go_enter Tryz.func100, Tryz.ntmps100
  have HB := only_refl w B
  go_wp2_with fail
  go_region_held3 (fun w' => w'.cell? ⟨B, 0, none⟩ = some (.string s) ∧ w'.cell? ⟨B, 1, none⟩ = some (.int .i64 a) ∧ w'.heap[B]? = some (.cells #[.string s, .int .i64 a, .bool sh, v3, v4, v5, v6, v7, v8, v9, v10, v11, v12] 158) ∧ World.grownBy w w' (some (B))) (first | exact ⟨(cell_of_block Hd.out rfl).1, (cell_of_block Hd.out rfl).1, Hd.out, only_drew HB⟩ | (go_split_ands; exact ⟨by assumption, by assumption, by assumption, by assumption⟩) | (go_split_ands; exact ⟨bcell (by assumption) (by assumption), bcell (by assumption) (by assumption), bblock (by assumption) (by assumption), only_call (by assumption) (by assumption)⟩) | (go_split_ands; exact ⟨cell_alloc' _ (by assumption), cell_alloc' _ (by assumption), block_alloc (by assumption) _, only_alloc (by assumption)⟩))
    (first | (go_at_call 26; refine (HG.out _).mono ?_; rintro e w1 ⟨rfl, hb1⟩))
  rename_i hH
  obtain ⟨k0_, k1_, k2_, HB'⟩ := hH
  clear Hd; have Hd := Lib.hid k2_
  clear k0_ k1_ k2_
  clear HB; have HB := HB'; clear HB'
  have hz := HB.size
  have qd0 := (cell_of_block (k := 0) Hd.out rfl).1; have zd0 := (cell_of_block (k := 0) Hd.out rfl).2
  have qd1 := (cell_of_block (k := 1) Hd.out rfl).1; have zd1 := (cell_of_block (k := 1) Hd.out rfl).2
  have qd2 := (cell_of_block (k := 2) Hd.out rfl).1; have zd2 := (cell_of_block (k := 2) Hd.out rfl).2
  have lt_d := blk_lt Hd.out
  go_wp2_with fail
  go_ret
  exact ⟨rfl, block_setCell (k := 1) Hd.out, only_set HB (.inl rfl) _⟩

set_option maxRecDepth 100000 in
set_option maxHeartbeats 1000000 in
theorem number_no (B : Nat) (s : ByteArray) (a k : Int) (sh : Bool) (v3 v4 v5 v6 v7 v8 v9 v10 v11 v12 : Value) (w : World) (hB : w.heap[B]? = some (.cells #[.string s, .int .i64 a, .bool sh, v3, v4, v5, v6, v7, v8, v9, v10, v11, v12] 158)) (hs : s.size ≤ 9223372036854775807) (hno : ¬ (1 ≤ k ∧ k ≤ 4 ∧ 0 ≤ a ∧ a + k ≤ s.size)) :
    Calls Tryz.prog 100 #[.pointer (some ⟨B, 0, none⟩), .int .i64 k] w fun e w' => e = .returned (.int .i64 0) ∧ w'.heap[B]? = some (.cells #[.string s, .int .i64 a, .bool true, v3, v4, v5, v6, v7, v8, v9, v10, v11, v12] 158) ∧ w.grownBy w' (some B) := by
  have HG := Lib.hid fun w => get_noI s a k w hs hno; clear hno
  have Hd := Lib.hid hB; clear hB
  go_enter Tryz.func100, Tryz.ntmps100
  have HB := only_refl w B
  go_wp2_with fail
  go_region_held3 (fun w' => w'.cell? ⟨B, 0, none⟩ = some (.string s) ∧ w'.cell? ⟨B, 1, none⟩ = some (.int .i64 a) ∧ w'.heap[B]? = some (.cells #[.string s, .int .i64 a, .bool sh, v3, v4, v5, v6, v7, v8, v9, v10, v11, v12] 158) ∧ World.grownBy w w' (some (B))) (first | exact ⟨(cell_of_block Hd.out rfl).1, (cell_of_block Hd.out rfl).1, Hd.out, only_drew HB⟩ | (go_split_ands; exact ⟨by assumption, by assumption, by assumption, by assumption⟩) | (go_split_ands; exact ⟨bcell (by assumption) (by assumption), bcell (by assumption) (by assumption), bblock (by assumption) (by assumption), only_call (by assumption) (by assumption)⟩) | (go_split_ands; exact ⟨cell_alloc' _ (by assumption), cell_alloc' _ (by assumption), block_alloc (by assumption) _, only_alloc (by assumption)⟩))
    (first | (go_at_call 26; refine (HG.out _).mono ?_; rintro e w1 ⟨rfl, hb1⟩))
  rename_i hH
  obtain ⟨k0_, k1_, k2_, HB'⟩ := hH
  clear Hd; have Hd := Lib.hid k2_
  clear k0_ k1_ k2_
  clear HB; have HB := HB'; clear HB'
  have hz := HB.size
  have qd0 := (cell_of_block (k := 0) Hd.out rfl).1; have zd0 := (cell_of_block (k := 0) Hd.out rfl).2
  have qd1 := (cell_of_block (k := 1) Hd.out rfl).1; have zd1 := (cell_of_block (k := 1) Hd.out rfl).2
  have qd2 := (cell_of_block (k := 2) Hd.out rfl).1; have zd2 := (cell_of_block (k := 2) Hd.out rfl).2
  have lt_d := blk_lt Hd.out
  go_wp2_with fail
  go_ret
  exact ⟨rfl, block_setCell (k := 2) Hd.out, only_set HB (.inl rfl) _⟩

theorem rest_any (B : Nat) (s : ByteArray) (a : Nat) (sh : Value) (v3 v4 v5 v6 v7 v8 v9 v10 v11 v12 : Value) (w : World) (hB : w.heap[B]? = some (.cells #[.string s, .int .i64 (a : Int), sh, v3, v4, v5, v6, v7, v8, v9, v10, v11, v12] 158)) (ha : a ≤ s.size) (_hs : s.size ≤ 9223372036854775807) :
    Calls Tryz.prog 62 #[.pointer (some ⟨B, 0, none⟩)] w fun e w' => e = .returned (.string (s.extract a s.size)) ∧ Below w.heap.size w w' := by
  have b1 : (0 : Int) ≤ (a : Int) := by omega
  have b2 : (a : Int) ≤ (s.size : Int) := by omega
  have c0 := (cell_of_block (k := 0) hB rfl).1
  have c1 := (cell_of_block (k := 1) hB rfl).1
  clear hB
  go_enter Tryz.func62, Tryz.ntmps62
  go_wp2_with fail
  go_region
  all_goals
    go_wp2_with fail
    go_ret
    exact ⟨rfl, (Below.refl _ _).drew⟩
end Go.Proofs.YtmgjcjacoegocaaGreatDoor.Ip

namespace Go.Proofs.YtmgjcjacoegocaaGreatDoor.Ip
set_option maxRecDepth 100000
open Go.RowKit Go.Proofs.YtmgjcjacoegocaaGreatDoor.Wire

theorem number_at (B : Nat) (s : ByteArray) (a a' k n : Int) (sh : Bool) (v3 v4 v5 v6 v7 v8 v9 v10 v11 v12 : Value) (w : World) (hB : w.heap[B]? = some (.cells #[.string s, .int .i64 a, .bool sh, v3, v4, v5, v6, v7, v8, v9, v10, v11, v12] 158)) (h0 : 0 ≤ a) (h1 : 1 ≤ k) (h4 : k ≤ 4) (ha : a + k = a') (hk : a' ≤ s.size) (hs : s.size ≤ 9223372036854775807) (hn : num (bytesAt s a.toNat k.toNat) = n) :
    Calls Tryz.prog 100 #[.pointer (some ⟨B, 0, none⟩), .int .i64 k] w fun e w' => e = .returned (.int .i64 n) ∧ w'.heap[B]? = some (.cells #[.string s, .int .i64 a', .bool sh, v3, v4, v5, v6, v7, v8, v9, v10, v11, v12] 158) ∧ w.grownBy w' (some B) := by
  subst ha hn
  exact number_ok B s a k sh v3 v4 v5 v6 v7 v8 v9 v10 v11 v12 w hB h0 h1 h4 hk hs

set_option maxRecDepth 100000 in
set_option maxHeartbeats 4000000 in
theorem dheader_long (B : Nat) (s : ByteArray) (w : World) (n0 n1 n2 n3 n4 n5 n6 n7 n8 n9 : Int) (df mf res : Bool) (R : List UInt8) (hB : w.heap[B]? = some (.cells #[.string s, .int .i64 0, .bool false, .int .i64 0, .int .i64 0, .int .i64 0, .int .i64 0, .int .i64 0, .bool false, .bool false, .int .i64 0, .string ⟨#[]⟩, .int .i64 0] 158)) (h20 : 20 ≤ s.size) (hs : s.size ≤ 9223372036854775807)
    (h0 : Hid (num (bytesAt s 0 1) = n0)) (h1 : Hid (num (bytesAt s 1 4) = n1)) (h2 : Hid (num (bytesAt s 5 4) = n2)) (h3 : Hid (num (bytesAt s 9 1) = n3)) (h4 : Hid (num (bytesAt s 10 1) = n4)) (h5 : Hid (num (bytesAt s 11 2) = n5)) (h6 : Hid (num (bytesAt s 13 1) = n6)) (h7 : Hid (num (bytesAt s 14 2) = n7)) (h8 : Hid (num (bytesAt s 16 2) = n8)) (h9 : Hid (num (bytesAt s 18 2) = n9)) (hv : (n0 != 4) = false) (hdf : (bits .and .i64 n6 1 != 0) = df) (hmf : (bits .and .i64 n6 2 != 0) = mf) (hn7 : 0 ≤ n7) (hn7' : n7 ≤ 65535)
    (HH : Hid (∀ w, Calls Tryz.prog 52 #[.agg #[.int .i64 n1, .int .i64 n2, .int .i64 n3, .int .i64 n4, .int .i64 n5, .bool df, .bool mf, .int .i64 (8 * n7), .string ⟨#[]⟩], .int .i64 n8] w fun e w' => e = .returned (.string ⟨R.toArray⟩) ∧ Below w.heap.size w w')) (hcmp : (R == (s.extract 0 20).toList) = res) :
    Calls Tryz.prog 61 #[.pointer (some ⟨B, 0, none⟩)] w fun e w' => e = .returned (.bool res) ∧ w'.heap[B]? = some (.cells #[.string s, .int .i64 20, .bool false, .int .i64 n1, .int .i64 n2, .int .i64 n3, .int .i64 n4, .int .i64 n5, .bool df, .bool mf, .int .i64 (8 * n7), .string ⟨#[]⟩, .int .i64 n8] 158) ∧ w.grownBy w' (some B) := by
  have h20i : (20 : Int) ≤ (s.size : Int) := by omega
  have Hd := Lib.hid hB; clear hB
  have HB := only_refl w B
  go_enter Tryz.func61, Tryz.ntmps61
  go_wp2_with fail
  refine (number_at B s 0 1 1 n0 false (.int .i64 0) (.int .i64 0) (.int .i64 0) (.int .i64 0) (.int .i64 0) (.bool false) (.bool false) (.int .i64 0) (.string ⟨#[]⟩) (.int .i64 0) _ Hd.out (by omega) (by omega) (by omega) (by omega) (by omega) hs h0.out).mono ?_
  rintro e w0 ⟨rfl, Hd', hg⟩
  have HB' := only_trans HB hg; clear HB hg Hd; have HB := HB'; have Hd := Lib.hid Hd'; clear HB' Hd'
  go_wp2_with fail
  refine (number_at B s 1 5 4 n1 false (.int .i64 0) (.int .i64 0) (.int .i64 0) (.int .i64 0) (.int .i64 0) (.bool false) (.bool false) (.int .i64 0) (.string ⟨#[]⟩) (.int .i64 0) _ Hd.out (by omega) (by omega) (by omega) (by omega) (by omega) hs h1.out).mono ?_
  rintro e w1 ⟨rfl, Hd', hg⟩
  have HB' := only_trans HB hg; clear HB hg Hd; have HB := HB'; have Hd := Lib.hid Hd'; clear HB' Hd'
  have qd3 := (cell_of_block (k := 3) Hd.out rfl).1; have zd3 := (cell_of_block (k := 3) Hd.out rfl).2
  go_wp2_with fail
  clear qd3 zd3
  have Hd' := Lib.hid (block_setCell (k := 3) (v := .int .i64 n1) Hd.out); clear Hd; have Hd := Hd'; clear Hd'
  have HB' := only_set HB (p := ⟨B, 3, none⟩) (.inl rfl) (.int .i64 n1); clear HB; have HB := HB'; clear HB'
  generalize (World.setCell w1 ⟨B, 3, none⟩ (.int .i64 n1)) = w1s at *
  have Hd' : Hid (w1s.heap[B]? = some (.cells #[.string s, .int .i64 5, .bool false, .int .i64 n1, .int .i64 0, .int .i64 0, .int .i64 0, .int .i64 0, .bool false, .bool false, .int .i64 0, .string ⟨#[]⟩, .int .i64 0] 158)) := Lib.hid Hd.out; clear Hd; have Hd := Hd'; clear Hd'
  go_wp2_with fail
  refine (number_at B s 5 9 4 n2 false (.int .i64 n1) (.int .i64 0) (.int .i64 0) (.int .i64 0) (.int .i64 0) (.bool false) (.bool false) (.int .i64 0) (.string ⟨#[]⟩) (.int .i64 0) _ Hd.out (by omega) (by omega) (by omega) (by omega) (by omega) hs h2.out).mono ?_
  rintro e w2 ⟨rfl, Hd', hg⟩
  have HB' := only_trans HB hg; clear HB hg Hd; have HB := HB'; have Hd := Lib.hid Hd'; clear HB' Hd'
  have qd4 := (cell_of_block (k := 4) Hd.out rfl).1; have zd4 := (cell_of_block (k := 4) Hd.out rfl).2
  go_wp2_with fail
  clear qd4 zd4
  have Hd' := Lib.hid (block_setCell (k := 4) (v := .int .i64 n2) Hd.out); clear Hd; have Hd := Hd'; clear Hd'
  have HB' := only_set HB (p := ⟨B, 4, none⟩) (.inl rfl) (.int .i64 n2); clear HB; have HB := HB'; clear HB'
  generalize (World.setCell w2 ⟨B, 4, none⟩ (.int .i64 n2)) = w2s at *
  have Hd' : Hid (w2s.heap[B]? = some (.cells #[.string s, .int .i64 9, .bool false, .int .i64 n1, .int .i64 n2, .int .i64 0, .int .i64 0, .int .i64 0, .bool false, .bool false, .int .i64 0, .string ⟨#[]⟩, .int .i64 0] 158)) := Lib.hid Hd.out; clear Hd; have Hd := Hd'; clear Hd'
  go_wp2_with fail
  refine (number_at B s 9 10 1 n3 false (.int .i64 n1) (.int .i64 n2) (.int .i64 0) (.int .i64 0) (.int .i64 0) (.bool false) (.bool false) (.int .i64 0) (.string ⟨#[]⟩) (.int .i64 0) _ Hd.out (by omega) (by omega) (by omega) (by omega) (by omega) hs h3.out).mono ?_
  rintro e w3 ⟨rfl, Hd', hg⟩
  have HB' := only_trans HB hg; clear HB hg Hd; have HB := HB'; have Hd := Lib.hid Hd'; clear HB' Hd'
  have qd5 := (cell_of_block (k := 5) Hd.out rfl).1; have zd5 := (cell_of_block (k := 5) Hd.out rfl).2
  go_wp2_with fail
  clear qd5 zd5
  have Hd' := Lib.hid (block_setCell (k := 5) (v := .int .i64 n3) Hd.out); clear Hd; have Hd := Hd'; clear Hd'
  have HB' := only_set HB (p := ⟨B, 5, none⟩) (.inl rfl) (.int .i64 n3); clear HB; have HB := HB'; clear HB'
  generalize (World.setCell w3 ⟨B, 5, none⟩ (.int .i64 n3)) = w3s at *
  have Hd' : Hid (w3s.heap[B]? = some (.cells #[.string s, .int .i64 10, .bool false, .int .i64 n1, .int .i64 n2, .int .i64 n3, .int .i64 0, .int .i64 0, .bool false, .bool false, .int .i64 0, .string ⟨#[]⟩, .int .i64 0] 158)) := Lib.hid Hd.out; clear Hd; have Hd := Hd'; clear Hd'
  go_wp2_with fail
  refine (number_at B s 10 11 1 n4 false (.int .i64 n1) (.int .i64 n2) (.int .i64 n3) (.int .i64 0) (.int .i64 0) (.bool false) (.bool false) (.int .i64 0) (.string ⟨#[]⟩) (.int .i64 0) _ Hd.out (by omega) (by omega) (by omega) (by omega) (by omega) hs h4.out).mono ?_
  rintro e w4 ⟨rfl, Hd', hg⟩
  have HB' := only_trans HB hg; clear HB hg Hd; have HB := HB'; have Hd := Lib.hid Hd'; clear HB' Hd'
  have qd6 := (cell_of_block (k := 6) Hd.out rfl).1; have zd6 := (cell_of_block (k := 6) Hd.out rfl).2
  go_wp2_with fail
  clear qd6 zd6
  have Hd' := Lib.hid (block_setCell (k := 6) (v := .int .i64 n4) Hd.out); clear Hd; have Hd := Hd'; clear Hd'
  have HB' := only_set HB (p := ⟨B, 6, none⟩) (.inl rfl) (.int .i64 n4); clear HB; have HB := HB'; clear HB'
  generalize (World.setCell w4 ⟨B, 6, none⟩ (.int .i64 n4)) = w4s at *
  have Hd' : Hid (w4s.heap[B]? = some (.cells #[.string s, .int .i64 11, .bool false, .int .i64 n1, .int .i64 n2, .int .i64 n3, .int .i64 n4, .int .i64 0, .bool false, .bool false, .int .i64 0, .string ⟨#[]⟩, .int .i64 0] 158)) := Lib.hid Hd.out; clear Hd; have Hd := Hd'; clear Hd'
  go_wp2_with fail
  refine (number_at B s 11 13 2 n5 false (.int .i64 n1) (.int .i64 n2) (.int .i64 n3) (.int .i64 n4) (.int .i64 0) (.bool false) (.bool false) (.int .i64 0) (.string ⟨#[]⟩) (.int .i64 0) _ Hd.out (by omega) (by omega) (by omega) (by omega) (by omega) hs h5.out).mono ?_
  rintro e w5 ⟨rfl, Hd', hg⟩
  have HB' := only_trans HB hg; clear HB hg Hd; have HB := HB'; have Hd := Lib.hid Hd'; clear HB' Hd'
  have qd7 := (cell_of_block (k := 7) Hd.out rfl).1; have zd7 := (cell_of_block (k := 7) Hd.out rfl).2
  go_wp2_with fail
  clear qd7 zd7
  have Hd' := Lib.hid (block_setCell (k := 7) (v := .int .i64 n5) Hd.out); clear Hd; have Hd := Hd'; clear Hd'
  have HB' := only_set HB (p := ⟨B, 7, none⟩) (.inl rfl) (.int .i64 n5); clear HB; have HB := HB'; clear HB'
  generalize (World.setCell w5 ⟨B, 7, none⟩ (.int .i64 n5)) = w5s at *
  have Hd' : Hid (w5s.heap[B]? = some (.cells #[.string s, .int .i64 13, .bool false, .int .i64 n1, .int .i64 n2, .int .i64 n3, .int .i64 n4, .int .i64 n5, .bool false, .bool false, .int .i64 0, .string ⟨#[]⟩, .int .i64 0] 158)) := Lib.hid Hd.out; clear Hd; have Hd := Hd'; clear Hd'
  go_wp2_with fail
  refine (number_at B s 13 14 1 n6 false (.int .i64 n1) (.int .i64 n2) (.int .i64 n3) (.int .i64 n4) (.int .i64 n5) (.bool false) (.bool false) (.int .i64 0) (.string ⟨#[]⟩) (.int .i64 0) _ Hd.out (by omega) (by omega) (by omega) (by omega) (by omega) hs h6.out).mono ?_
  rintro e w6 ⟨rfl, Hd', hg⟩
  have HB' := only_trans HB hg; clear HB hg Hd; have HB := HB'; have Hd := Lib.hid Hd'; clear HB' Hd'
  have qd8 := (cell_of_block (k := 8) Hd.out rfl).1; have zd8 := (cell_of_block (k := 8) Hd.out rfl).2
  have qd9 := (cell_of_block (k := 9) Hd.out rfl).1; have zd9 := (cell_of_block (k := 9) Hd.out rfl).2
  go_wp2_with fail
  clear qd8 zd8 qd9 zd9
  have Hd' := Lib.hid (block_setCell (k := 8) (v := .bool df) Hd.out); clear Hd; have Hd := Hd'; clear Hd'
  have HB' := only_set HB (p := ⟨B, 8, none⟩) (.inl rfl) (.bool df); clear HB; have HB := HB'; clear HB'
  have Hd' := Lib.hid (block_setCell (k := 9) (v := .bool mf) Hd.out); clear Hd; have Hd := Hd'; clear Hd'
  have HB' := only_set HB (p := ⟨B, 9, none⟩) (.inl rfl) (.bool mf); clear HB; have HB := HB'; clear HB'
  generalize (World.setCell (World.setCell w6 ⟨B, 8, none⟩ (.bool df)) ⟨B, 9, none⟩ (.bool mf)) = w6s at *
  have Hd' : Hid (w6s.heap[B]? = some (.cells #[.string s, .int .i64 14, .bool false, .int .i64 n1, .int .i64 n2, .int .i64 n3, .int .i64 n4, .int .i64 n5, .bool df, .bool mf, .int .i64 0, .string ⟨#[]⟩, .int .i64 0] 158)) := Lib.hid Hd.out; clear Hd; have Hd := Hd'; clear Hd'
  go_wp2_with fail
  refine (number_at B s 14 16 2 n7 false (.int .i64 n1) (.int .i64 n2) (.int .i64 n3) (.int .i64 n4) (.int .i64 n5) (.bool df) (.bool mf) (.int .i64 0) (.string ⟨#[]⟩) (.int .i64 0) _ Hd.out (by omega) (by omega) (by omega) (by omega) (by omega) hs h7.out).mono ?_
  rintro e w7 ⟨rfl, Hd', hg⟩
  have HB' := only_trans HB hg; clear HB hg Hd; have HB := HB'; have Hd := Lib.hid Hd'; clear HB' Hd'
  have qd10 := (cell_of_block (k := 10) Hd.out rfl).1; have zd10 := (cell_of_block (k := 10) Hd.out rfl).2
  go_wp2_with fail
  clear qd10 zd10
  have Hd' := Lib.hid (block_setCell (k := 10) (v := .int .i64 (8 * n7)) Hd.out); clear Hd; have Hd := Hd'; clear Hd'
  have HB' := only_set HB (p := ⟨B, 10, none⟩) (.inl rfl) (.int .i64 (8 * n7)); clear HB; have HB := HB'; clear HB'
  generalize (World.setCell w7 ⟨B, 10, none⟩ (.int .i64 (8 * n7))) = w7s at *
  have Hd' : Hid (w7s.heap[B]? = some (.cells #[.string s, .int .i64 16, .bool false, .int .i64 n1, .int .i64 n2, .int .i64 n3, .int .i64 n4, .int .i64 n5, .bool df, .bool mf, .int .i64 (8 * n7), .string ⟨#[]⟩, .int .i64 0] 158)) := Lib.hid Hd.out; clear Hd; have Hd := Hd'; clear Hd'
  go_wp2_with fail
  refine (number_at B s 16 18 2 n8 false (.int .i64 n1) (.int .i64 n2) (.int .i64 n3) (.int .i64 n4) (.int .i64 n5) (.bool df) (.bool mf) (.int .i64 (8 * n7)) (.string ⟨#[]⟩) (.int .i64 0) _ Hd.out (by omega) (by omega) (by omega) (by omega) (by omega) hs h8.out).mono ?_
  rintro e w8 ⟨rfl, Hd', hg⟩
  have HB' := only_trans HB hg; clear HB hg Hd; have HB := HB'; have Hd := Lib.hid Hd'; clear HB' Hd'
  have qd12 := (cell_of_block (k := 12) Hd.out rfl).1; have zd12 := (cell_of_block (k := 12) Hd.out rfl).2
  go_wp2_with fail
  clear qd12 zd12
  have Hd' := Lib.hid (block_setCell (k := 12) (v := .int .i64 n8) Hd.out); clear Hd; have Hd := Hd'; clear Hd'
  have HB' := only_set HB (p := ⟨B, 12, none⟩) (.inl rfl) (.int .i64 n8); clear HB; have HB := HB'; clear HB'
  generalize (World.setCell w8 ⟨B, 12, none⟩ (.int .i64 n8)) = w8s at *
  have Hd' : Hid (w8s.heap[B]? = some (.cells #[.string s, .int .i64 18, .bool false, .int .i64 n1, .int .i64 n2, .int .i64 n3, .int .i64 n4, .int .i64 n5, .bool df, .bool mf, .int .i64 (8 * n7), .string ⟨#[]⟩, .int .i64 n8] 158)) := Lib.hid Hd.out; clear Hd; have Hd := Hd'; clear Hd'
  go_wp2_with fail
  refine (number_at B s 18 20 2 n9 false (.int .i64 n1) (.int .i64 n2) (.int .i64 n3) (.int .i64 n4) (.int .i64 n5) (.bool df) (.bool mf) (.int .i64 (8 * n7)) (.string ⟨#[]⟩) (.int .i64 n8) _ Hd.out (by omega) (by omega) (by omega) (by omega) (by omega) hs h9.out).mono ?_
  rintro e w9 ⟨rfl, Hd', hg⟩
  have HB' := only_trans HB hg; clear HB hg Hd; have HB := HB'; have Hd := Lib.hid Hd'; clear HB' Hd'
  go_wp2_with fail
  go_region_held3 (fun w' => w'.cell? ⟨B, 0, none⟩ = some (.string s) ∧ w'.cell? ⟨B, 2, none⟩ = some (.bool false) ∧ w'.cell? ⟨B, 3, none⟩ = some (.int .i64 n1) ∧ w'.cell? ⟨B, 4, none⟩ = some (.int .i64 n2) ∧ w'.cell? ⟨B, 5, none⟩ = some (.int .i64 n3) ∧ w'.cell? ⟨B, 6, none⟩ = some (.int .i64 n4) ∧ w'.cell? ⟨B, 7, none⟩ = some (.int .i64 n5) ∧ w'.cell? ⟨B, 8, none⟩ = some (.bool df) ∧ w'.cell? ⟨B, 9, none⟩ = some (.bool mf) ∧ w'.cell? ⟨B, 10, none⟩ = some (.int .i64 (8 * n7)) ∧ w'.cell? ⟨B, 11, none⟩ = some (.string ⟨#[]⟩) ∧ w'.cell? ⟨B, 12, none⟩ = some (.int .i64 n8) ∧ w'.heap[B]? = some (.cells #[.string s, .int .i64 20, .bool false, .int .i64 n1, .int .i64 n2, .int .i64 n3, .int .i64 n4, .int .i64 n5, .bool df, .bool mf, .int .i64 (8 * n7), .string ⟨#[]⟩, .int .i64 n8] 158) ∧ World.grownBy w w' (some (B))) (first | exact ⟨(cell_of_block Hd.out rfl).1, (cell_of_block Hd.out rfl).1, (cell_of_block Hd.out rfl).1, (cell_of_block Hd.out rfl).1, (cell_of_block Hd.out rfl).1, (cell_of_block Hd.out rfl).1, (cell_of_block Hd.out rfl).1, (cell_of_block Hd.out rfl).1, (cell_of_block Hd.out rfl).1, (cell_of_block Hd.out rfl).1, (cell_of_block Hd.out rfl).1, (cell_of_block Hd.out rfl).1, Hd.out, only_drew HB⟩ | (go_split_ands; exact ⟨by assumption, by assumption, by assumption, by assumption, by assumption, by assumption, by assumption, by assumption, by assumption, by assumption, by assumption, by assumption, by assumption, by assumption⟩) | (go_split_ands; exact ⟨bcell (by assumption) (by assumption), bcell (by assumption) (by assumption), bcell (by assumption) (by assumption), bcell (by assumption) (by assumption), bcell (by assumption) (by assumption), bcell (by assumption) (by assumption), bcell (by assumption) (by assumption), bcell (by assumption) (by assumption), bcell (by assumption) (by assumption), bcell (by assumption) (by assumption), bcell (by assumption) (by assumption), bcell (by assumption) (by assumption), bblock (by assumption) (by assumption), only_call (by assumption) (by assumption)⟩) | (go_split_ands; exact ⟨cell_alloc' _ (by assumption), cell_alloc' _ (by assumption), cell_alloc' _ (by assumption), cell_alloc' _ (by assumption), cell_alloc' _ (by assumption), cell_alloc' _ (by assumption), cell_alloc' _ (by assumption), cell_alloc' _ (by assumption), cell_alloc' _ (by assumption), cell_alloc' _ (by assumption), cell_alloc' _ (by assumption), cell_alloc' _ (by assumption), block_alloc (by assumption) _, only_alloc (by assumption)⟩))
    (first | (go_at_call 52; refine (HH.out _).mono ?_; rintro e wh ⟨rfl, hbh⟩))
  rename_i hH
  obtain ⟨k0_, k1_, k2_, k3_, k4_, k5_, k6_, k7_, k8_, k9_, k10_, k11_, k12_, HB'⟩ := hH
  clear Hd; have Hd := Lib.hid k12_
  clear k0_ k1_ k2_ k3_ k4_ k5_ k6_ k7_ k8_ k9_ k10_ k11_ k12_
  clear HB; have HB := HB'; clear HB'
  have hz := HB.size
  go_wp2_with fail
  go_ret
  exact ⟨rfl, Hd.out, HB⟩

end Go.Proofs.YtmgjcjacoegocaaGreatDoor.Ip

namespace Go.Proofs.YtmgjcjacoegocaaGreatDoor.Ip
set_option maxRecDepth 100000
open Go.RowKit Go.Proofs.YtmgjcjacoegocaaGreatDoor.Wire

theorem only_drewN {a w : World} {row : Option Nat} (h : a.grownBy w row) (n : Nat) : a.grownBy (w.drewN n) row := ⟨h.os, h.tape, h.output, h.size, h.block⟩
theorem bytesAt_len_le (s : ByteArray) (a k : Nat) : (bytesAt s a k).length ≤ k := by unfold bytesAt; rw [List.length_take]; omega
theorem pow256 (k : Nat) (h : k ≤ 4) : (256 : Int) ^ k ≤ 4294967296 := by
  have : k = 0 ∨ k = 1 ∨ k = 2 ∨ k = 3 ∨ k = 4 := by omega
  rcases this with rfl | rfl | rfl | rfl | rfl <;> simp
theorem numAt_bd (s : ByteArray) (a k : Nat) (h : k ≤ 4) : 0 ≤ num (bytesAt s a k) ∧ num (bytesAt s a k) ≤ 4294967295 := by
  have h1 := num_bd (bytesAt s a k)
  have h2 := pow256 _ (Nat.le_trans (bytesAt_len_le s a k) h)
  omega
def NumPost (B : Nat) (s : ByteArray) (a k : Int) (sh : Bool) (v3 v4 v5 v6 v7 v8 v9 v10 v11 v12 : Value) (w : World) (e : Ending) (w' : World) : Prop :=
  ∃ (m a' : Int) (sh' : Bool), e = .returned (.int .i64 m) ∧ w'.heap[B]? = some (.cells #[.string s, .int .i64 a', .bool sh', v3, v4, v5, v6, v7, v8, v9, v10, v11, v12] 158) ∧ w.grownBy w' (some B) ∧ 0 ≤ m ∧ m ≤ 4294967295 ∧ 0 ≤ a' ∧ Hid (sh' = false → sh = false ∧ a' = a + k ∧ a' ≤ s.size)
theorem number_gen (B : Nat) (s : ByteArray) (a k : Int) (sh : Bool) (v3 v4 v5 v6 v7 v8 v9 v10 v11 v12 : Value) (w : World) (hB : w.heap[B]? = some (.cells #[.string s, .int .i64 a, .bool sh, v3, v4, v5, v6, v7, v8, v9, v10, v11, v12] 158)) (h0 : 0 ≤ a) (h1 : 1 ≤ k) (h4 : k ≤ 4) (hs : s.size ≤ 9223372036854775807) :
    Calls Tryz.prog 100 #[.pointer (some ⟨B, 0, none⟩), .int .i64 k] w (NumPost B s a k sh v3 v4 v5 v6 v7 v8 v9 v10 v11 v12 w) := by
  by_cases h : a + k ≤ s.size
  · refine (number_ok B s a k sh v3 v4 v5 v6 v7 v8 v9 v10 v11 v12 w hB h0 h1 h4 h hs).mono ?_
    rintro e w' ⟨rfl, h2, h3⟩
    have := numAt_bd s a.toNat k.toNat (by omega)
    exact ⟨_, _, _, rfl, h2, h3, this.1, this.2, by omega, Lib.hid fun hq => ⟨hq, rfl, h⟩⟩
  · refine (number_no B s a k sh v3 v4 v5 v6 v7 v8 v9 v10 v11 v12 w hB hs (by omega)).mono ?_
    rintro e w' ⟨rfl, h2, h3⟩
    exact ⟨_, _, _, rfl, h2, h3, by omega, by omega, by omega, Lib.hid fun hq => by cases hq⟩

set_option maxRecDepth 100000 in
set_option maxHeartbeats 4000000 in
theorem dheader_ver (B : Nat) (s : ByteArray) (w : World) (n0 : Int) (hB : w.heap[B]? = some (.cells #[.string s, .int .i64 0, .bool false, .int .i64 0, .int .i64 0, .int .i64 0, .int .i64 0, .int .i64 0, .bool false, .bool false, .int .i64 0, .string ⟨#[]⟩, .int .i64 0] 158)) (h1 : 1 ≤ s.size) (hs : s.size ≤ 9223372036854775807)
    (h0 : Hid (num (bytesAt s 0 1) = n0)) (hv : (n0 != 4) = true) :
    Calls Tryz.prog 61 #[.pointer (some ⟨B, 0, none⟩)] w fun e w' => e = .returned (.bool false) ∧ w.grownBy w' (some B) := by
  have Hd := Lib.hid hB
  clear hB
  go_enter Tryz.func61, Tryz.ntmps61
  go_wp2_with fail
  refine (number_at B s 0 1 1 n0 false (.int .i64 0) (.int .i64 0) (.int .i64 0) (.int .i64 0) (.int .i64 0) (.bool false) (.bool false) (.int .i64 0) (.string ⟨#[]⟩) (.int .i64 0) _ Hd.out (by omega) (by omega) (by omega) (by omega) (by omega) hs h0.out).mono ?_
  rintro e w1 ⟨rfl, _, hg⟩
  go_wp2_with fail
  go_ret
  exact ⟨rfl, hg⟩

set_option maxRecDepth 100000 in
set_option maxHeartbeats 4000000 in
theorem dheader_empty (B : Nat) (s : ByteArray) (w : World) (hB : w.heap[B]? = some (.cells #[.string s, .int .i64 0, .bool false, .int .i64 0, .int .i64 0, .int .i64 0, .int .i64 0, .int .i64 0, .bool false, .bool false, .int .i64 0, .string ⟨#[]⟩, .int .i64 0] 158)) (h1 : s.size = 0) :
    Calls Tryz.prog 61 #[.pointer (some ⟨B, 0, none⟩)] w fun e w' => e = .returned (.bool false) ∧ w.grownBy w' (some B) := by
  have HN := Lib.hid (number_no B s 0 1 false (.int .i64 0) (.int .i64 0) (.int .i64 0) (.int .i64 0) (.int .i64 0) (.bool false) (.bool false) (.int .i64 0) (.string ⟨#[]⟩) (.int .i64 0) w hB (by omega) (by omega))
  clear hB h1
  go_enter Tryz.func61, Tryz.ntmps61
  go_wp2_with fail
  refine HN.out.mono ?_
  rintro e w1 ⟨rfl, _, hg⟩
  go_wp2_with fail
  go_ret
  exact ⟨rfl, hg⟩

set_option maxRecDepth 100000 in
set_option maxHeartbeats 4000000 in
theorem dheader_short (B : Nat) (s : ByteArray) (w : World) (hB : w.heap[B]? = some (.cells #[.string s, .int .i64 0, .bool false, .int .i64 0, .int .i64 0, .int .i64 0, .int .i64 0, .int .i64 0, .bool false, .bool false, .int .i64 0, .string ⟨#[]⟩, .int .i64 0] 158)) (hl : 1 ≤ s.size) (h20 : s.size < 20) (hs : s.size ≤ 9223372036854775807)
    (h0 : Hid (num (bytesAt s 0 1) = 4)) :
    Calls Tryz.prog 61 #[.pointer (some ⟨B, 0, none⟩)] w fun e w' => e = .returned (.bool false) ∧ w.grownBy w' (some B) := by
  have Hd := Lib.hid hB; clear hB
  have HB := only_refl w B
  go_enter Tryz.func61, Tryz.ntmps61
  go_wp2_with fail
  refine (number_at B s 0 1 1 4 false (.int .i64 0) (.int .i64 0) (.int .i64 0) (.int .i64 0) (.int .i64 0) (.bool false) (.bool false) (.int .i64 0) (.string ⟨#[]⟩) (.int .i64 0) _ Hd.out (by omega) (by omega) (by omega) (by omega) (by omega) hs h0.out).mono ?_
  rintro e w0 ⟨rfl, Hd', hg⟩
  have HB' := only_trans HB hg; clear HB hg Hd; have HB := HB'; have Hd := Lib.hid Hd'; clear HB' Hd'
  go_wp2_with fail
  refine (number_gen B s 1 4 false (.int .i64 0) (.int .i64 0) (.int .i64 0) (.int .i64 0) (.int .i64 0) (.bool false) (.bool false) (.int .i64 0) (.string ⟨#[]⟩) (.int .i64 0) _ Hd.out (by omega) (by omega) (by omega) hs).mono ?_
  rintro e w1 ⟨m1, a1, sh1, rfl, Hd', hg, hm1, hM1, ha1, HQ1⟩
  have HB' := only_trans HB hg; clear HB hg Hd; have HB := HB'; have Hd := Lib.hid Hd'; clear HB' Hd'
  have qd3 := (cell_of_block (k := 3) Hd.out rfl).1; have zd3 := (cell_of_block (k := 3) Hd.out rfl).2
  go_wp2_with fail
  clear qd3 zd3
  have Hd' := Lib.hid (block_setCell (k := 3) (v := .int .i64 m1) Hd.out); clear Hd; have Hd := Hd'; clear Hd'
  have HB' := only_set HB (p := ⟨B, 3, none⟩) (.inl rfl) (.int .i64 m1); clear HB; have HB := HB'; clear HB'
  generalize (World.setCell w1 ⟨B, 3, none⟩ (.int .i64 m1)) = w1s at *
  have Hd' : Hid (w1s.heap[B]? = some (.cells #[.string s, .int .i64 a1, .bool sh1, .int .i64 m1, .int .i64 0, .int .i64 0, .int .i64 0, .int .i64 0, .bool false, .bool false, .int .i64 0, .string ⟨#[]⟩, .int .i64 0] 158)) := Lib.hid Hd.out; clear Hd; have Hd := Hd'; clear Hd'
  go_wp2_with fail
  refine (number_gen B s a1 4 sh1 (.int .i64 m1) (.int .i64 0) (.int .i64 0) (.int .i64 0) (.int .i64 0) (.bool false) (.bool false) (.int .i64 0) (.string ⟨#[]⟩) (.int .i64 0) _ Hd.out (by omega) (by omega) (by omega) hs).mono ?_
  rintro e w2 ⟨m2, a2, sh2, rfl, Hd', hg, hm2, hM2, ha2, HQ2⟩
  have HB' := only_trans HB hg; clear HB hg Hd; have HB := HB'; have Hd := Lib.hid Hd'; clear HB' Hd'
  have qd4 := (cell_of_block (k := 4) Hd.out rfl).1; have zd4 := (cell_of_block (k := 4) Hd.out rfl).2
  go_wp2_with fail
  clear qd4 zd4
  have Hd' := Lib.hid (block_setCell (k := 4) (v := .int .i64 m2) Hd.out); clear Hd; have Hd := Hd'; clear Hd'
  have HB' := only_set HB (p := ⟨B, 4, none⟩) (.inl rfl) (.int .i64 m2); clear HB; have HB := HB'; clear HB'
  generalize (World.setCell w2 ⟨B, 4, none⟩ (.int .i64 m2)) = w2s at *
  have Hd' : Hid (w2s.heap[B]? = some (.cells #[.string s, .int .i64 a2, .bool sh2, .int .i64 m1, .int .i64 m2, .int .i64 0, .int .i64 0, .int .i64 0, .bool false, .bool false, .int .i64 0, .string ⟨#[]⟩, .int .i64 0] 158)) := Lib.hid Hd.out; clear Hd; have Hd := Hd'; clear Hd'
  go_wp2_with fail
  refine (number_gen B s a2 1 sh2 (.int .i64 m1) (.int .i64 m2) (.int .i64 0) (.int .i64 0) (.int .i64 0) (.bool false) (.bool false) (.int .i64 0) (.string ⟨#[]⟩) (.int .i64 0) _ Hd.out (by omega) (by omega) (by omega) hs).mono ?_
  rintro e w3 ⟨m3, a3, sh3, rfl, Hd', hg, hm3, hM3, ha3, HQ3⟩
  have HB' := only_trans HB hg; clear HB hg Hd; have HB := HB'; have Hd := Lib.hid Hd'; clear HB' Hd'
  have qd5 := (cell_of_block (k := 5) Hd.out rfl).1; have zd5 := (cell_of_block (k := 5) Hd.out rfl).2
  go_wp2_with fail
  clear qd5 zd5
  have Hd' := Lib.hid (block_setCell (k := 5) (v := .int .i64 m3) Hd.out); clear Hd; have Hd := Hd'; clear Hd'
  have HB' := only_set HB (p := ⟨B, 5, none⟩) (.inl rfl) (.int .i64 m3); clear HB; have HB := HB'; clear HB'
  generalize (World.setCell w3 ⟨B, 5, none⟩ (.int .i64 m3)) = w3s at *
  have Hd' : Hid (w3s.heap[B]? = some (.cells #[.string s, .int .i64 a3, .bool sh3, .int .i64 m1, .int .i64 m2, .int .i64 m3, .int .i64 0, .int .i64 0, .bool false, .bool false, .int .i64 0, .string ⟨#[]⟩, .int .i64 0] 158)) := Lib.hid Hd.out; clear Hd; have Hd := Hd'; clear Hd'
  go_wp2_with fail
  refine (number_gen B s a3 1 sh3 (.int .i64 m1) (.int .i64 m2) (.int .i64 m3) (.int .i64 0) (.int .i64 0) (.bool false) (.bool false) (.int .i64 0) (.string ⟨#[]⟩) (.int .i64 0) _ Hd.out (by omega) (by omega) (by omega) hs).mono ?_
  rintro e w4 ⟨m4, a4, sh4, rfl, Hd', hg, hm4, hM4, ha4, HQ4⟩
  have HB' := only_trans HB hg; clear HB hg Hd; have HB := HB'; have Hd := Lib.hid Hd'; clear HB' Hd'
  have qd6 := (cell_of_block (k := 6) Hd.out rfl).1; have zd6 := (cell_of_block (k := 6) Hd.out rfl).2
  go_wp2_with fail
  clear qd6 zd6
  have Hd' := Lib.hid (block_setCell (k := 6) (v := .int .i64 m4) Hd.out); clear Hd; have Hd := Hd'; clear Hd'
  have HB' := only_set HB (p := ⟨B, 6, none⟩) (.inl rfl) (.int .i64 m4); clear HB; have HB := HB'; clear HB'
  generalize (World.setCell w4 ⟨B, 6, none⟩ (.int .i64 m4)) = w4s at *
  have Hd' : Hid (w4s.heap[B]? = some (.cells #[.string s, .int .i64 a4, .bool sh4, .int .i64 m1, .int .i64 m2, .int .i64 m3, .int .i64 m4, .int .i64 0, .bool false, .bool false, .int .i64 0, .string ⟨#[]⟩, .int .i64 0] 158)) := Lib.hid Hd.out; clear Hd; have Hd := Hd'; clear Hd'
  go_wp2_with fail
  refine (number_gen B s a4 2 sh4 (.int .i64 m1) (.int .i64 m2) (.int .i64 m3) (.int .i64 m4) (.int .i64 0) (.bool false) (.bool false) (.int .i64 0) (.string ⟨#[]⟩) (.int .i64 0) _ Hd.out (by omega) (by omega) (by omega) hs).mono ?_
  rintro e w5 ⟨m5, a5, sh5, rfl, Hd', hg, hm5, hM5, ha5, HQ5⟩
  have HB' := only_trans HB hg; clear HB hg Hd; have HB := HB'; have Hd := Lib.hid Hd'; clear HB' Hd'
  have qd7 := (cell_of_block (k := 7) Hd.out rfl).1; have zd7 := (cell_of_block (k := 7) Hd.out rfl).2
  go_wp2_with fail
  clear qd7 zd7
  have Hd' := Lib.hid (block_setCell (k := 7) (v := .int .i64 m5) Hd.out); clear Hd; have Hd := Hd'; clear Hd'
  have HB' := only_set HB (p := ⟨B, 7, none⟩) (.inl rfl) (.int .i64 m5); clear HB; have HB := HB'; clear HB'
  generalize (World.setCell w5 ⟨B, 7, none⟩ (.int .i64 m5)) = w5s at *
  have Hd' : Hid (w5s.heap[B]? = some (.cells #[.string s, .int .i64 a5, .bool sh5, .int .i64 m1, .int .i64 m2, .int .i64 m3, .int .i64 m4, .int .i64 m5, .bool false, .bool false, .int .i64 0, .string ⟨#[]⟩, .int .i64 0] 158)) := Lib.hid Hd.out; clear Hd; have Hd := Hd'; clear Hd'
  go_wp2_with fail
  refine (number_gen B s a5 1 sh5 (.int .i64 m1) (.int .i64 m2) (.int .i64 m3) (.int .i64 m4) (.int .i64 m5) (.bool false) (.bool false) (.int .i64 0) (.string ⟨#[]⟩) (.int .i64 0) _ Hd.out (by omega) (by omega) (by omega) hs).mono ?_
  rintro e w6 ⟨m6, a6, sh6, rfl, Hd', hg, hm6, hM6, ha6, HQ6⟩
  have HB' := only_trans HB hg; clear HB hg Hd; have HB := HB'; have Hd := Lib.hid Hd'; clear HB' Hd'
  have qd8 := (cell_of_block (k := 8) Hd.out rfl).1; have zd8 := (cell_of_block (k := 8) Hd.out rfl).2
  have qd9 := (cell_of_block (k := 9) Hd.out rfl).1; have zd9 := (cell_of_block (k := 9) Hd.out rfl).2
  go_wp2_with fail
  clear qd8 zd8 qd9 zd9
  have Hd' := Lib.hid (block_setCell (k := 8) (v := .bool (bits .and .i64 m6 1 != 0)) Hd.out); clear Hd; have Hd := Hd'; clear Hd'
  have HB' := only_set HB (p := ⟨B, 8, none⟩) (.inl rfl) (.bool (bits .and .i64 m6 1 != 0)); clear HB; have HB := HB'; clear HB'
  have Hd' := Lib.hid (block_setCell (k := 9) (v := .bool (bits .and .i64 m6 2 != 0)) Hd.out); clear Hd; have Hd := Hd'; clear Hd'
  have HB' := only_set HB (p := ⟨B, 9, none⟩) (.inl rfl) (.bool (bits .and .i64 m6 2 != 0)); clear HB; have HB := HB'; clear HB'
  generalize (World.setCell (World.setCell w6 ⟨B, 8, none⟩ (.bool (bits .and .i64 m6 1 != 0))) ⟨B, 9, none⟩ (.bool (bits .and .i64 m6 2 != 0))) = w6s at *
  have Hd' : Hid (w6s.heap[B]? = some (.cells #[.string s, .int .i64 a6, .bool sh6, .int .i64 m1, .int .i64 m2, .int .i64 m3, .int .i64 m4, .int .i64 m5, .bool (bits .and .i64 m6 1 != 0), .bool (bits .and .i64 m6 2 != 0), .int .i64 0, .string ⟨#[]⟩, .int .i64 0] 158)) := Lib.hid Hd.out; clear Hd; have Hd := Hd'; clear Hd'
  go_wp2_with fail
  refine (number_gen B s a6 2 sh6 (.int .i64 m1) (.int .i64 m2) (.int .i64 m3) (.int .i64 m4) (.int .i64 m5) (.bool (bits .and .i64 m6 1 != 0)) (.bool (bits .and .i64 m6 2 != 0)) (.int .i64 0) (.string ⟨#[]⟩) (.int .i64 0) _ Hd.out (by omega) (by omega) (by omega) hs).mono ?_
  rintro e w7 ⟨m7, a7, sh7, rfl, Hd', hg, hm7, hM7, ha7, HQ7⟩
  have HB' := only_trans HB hg; clear HB hg Hd; have HB := HB'; have Hd := Lib.hid Hd'; clear HB' Hd'
  have qd10 := (cell_of_block (k := 10) Hd.out rfl).1; have zd10 := (cell_of_block (k := 10) Hd.out rfl).2
  go_wp2_with fail
  clear qd10 zd10
  have Hd' := Lib.hid (block_setCell (k := 10) (v := .int .i64 (8 * m7)) Hd.out); clear Hd; have Hd := Hd'; clear Hd'
  have HB' := only_set HB (p := ⟨B, 10, none⟩) (.inl rfl) (.int .i64 (8 * m7)); clear HB; have HB := HB'; clear HB'
  generalize (World.setCell w7 ⟨B, 10, none⟩ (.int .i64 (8 * m7))) = w7s at *
  have Hd' : Hid (w7s.heap[B]? = some (.cells #[.string s, .int .i64 a7, .bool sh7, .int .i64 m1, .int .i64 m2, .int .i64 m3, .int .i64 m4, .int .i64 m5, .bool (bits .and .i64 m6 1 != 0), .bool (bits .and .i64 m6 2 != 0), .int .i64 (8 * m7), .string ⟨#[]⟩, .int .i64 0] 158)) := Lib.hid Hd.out; clear Hd; have Hd := Hd'; clear Hd'
  go_wp2_with fail
  refine (number_gen B s a7 2 sh7 (.int .i64 m1) (.int .i64 m2) (.int .i64 m3) (.int .i64 m4) (.int .i64 m5) (.bool (bits .and .i64 m6 1 != 0)) (.bool (bits .and .i64 m6 2 != 0)) (.int .i64 (8 * m7)) (.string ⟨#[]⟩) (.int .i64 0) _ Hd.out (by omega) (by omega) (by omega) hs).mono ?_
  rintro e w8 ⟨m8, a8, sh8, rfl, Hd', hg, hm8, hM8, ha8, HQ8⟩
  have HB' := only_trans HB hg; clear HB hg Hd; have HB := HB'; have Hd := Lib.hid Hd'; clear HB' Hd'
  have qd12 := (cell_of_block (k := 12) Hd.out rfl).1; have zd12 := (cell_of_block (k := 12) Hd.out rfl).2
  go_wp2_with fail
  clear qd12 zd12
  have Hd' := Lib.hid (block_setCell (k := 12) (v := .int .i64 m8) Hd.out); clear Hd; have Hd := Hd'; clear Hd'
  have HB' := only_set HB (p := ⟨B, 12, none⟩) (.inl rfl) (.int .i64 m8); clear HB; have HB := HB'; clear HB'
  generalize (World.setCell w8 ⟨B, 12, none⟩ (.int .i64 m8)) = w8s at *
  have Hd' : Hid (w8s.heap[B]? = some (.cells #[.string s, .int .i64 a8, .bool sh8, .int .i64 m1, .int .i64 m2, .int .i64 m3, .int .i64 m4, .int .i64 m5, .bool (bits .and .i64 m6 1 != 0), .bool (bits .and .i64 m6 2 != 0), .int .i64 (8 * m7), .string ⟨#[]⟩, .int .i64 m8] 158)) := Lib.hid Hd.out; clear Hd; have Hd := Hd'; clear Hd'
  go_wp2_with fail
  refine (number_gen B s a8 2 sh8 (.int .i64 m1) (.int .i64 m2) (.int .i64 m3) (.int .i64 m4) (.int .i64 m5) (.bool (bits .and .i64 m6 1 != 0)) (.bool (bits .and .i64 m6 2 != 0)) (.int .i64 (8 * m7)) (.string ⟨#[]⟩) (.int .i64 m8) _ Hd.out (by omega) (by omega) (by omega) hs).mono ?_
  rintro e w9 ⟨m9, a9, sh9, rfl, Hd', hg, hm9, hM9, ha9, HQ9⟩
  have HB' := only_trans HB hg; clear HB hg Hd; have HB := HB'; have Hd := Lib.hid Hd'; clear HB' Hd'
  have hsh : sh9 = true := by
    cases hq9 : sh9 with
    | true => rfl
    | false =>
      obtain ⟨q9, r9, t9⟩ := HQ9.out hq9
      obtain ⟨q8, r8, t8⟩ := HQ8.out q9
      obtain ⟨q7, r7, t7⟩ := HQ7.out q8
      obtain ⟨q6, r6, t6⟩ := HQ6.out q7
      obtain ⟨q5, r5, t5⟩ := HQ5.out q6
      obtain ⟨q4, r4, t4⟩ := HQ4.out q5
      obtain ⟨q3, r3, t3⟩ := HQ3.out q4
      obtain ⟨q2, r2, t2⟩ := HQ2.out q3
      obtain ⟨q1, r1, t1⟩ := HQ1.out q2
      omega
  subst hsh
  clear HQ1 HQ2 HQ3 HQ4 HQ5 HQ6 HQ7 HQ8 HQ9
  have qd2 := (cell_of_block (k := 2) Hd.out rfl).1
  go_wp2_with fail
  go_quiet (fail)
  go_wp2_with fail
  go_ret
  exact ⟨rfl, only_drewN HB _⟩

end Go.Proofs.YtmgjcjacoegocaaGreatDoor.Ip

namespace Go.Proofs.YtmgjcjacoegocaaGreatDoor.Ip
set_option maxRecDepth 100000
open Go.RowKit Go.Proofs.YtmgjcjacoegocaaGreatDoor.Wire
attribute [local go_sem ↓] Go.wp_at_zero Go.wp_at_succ
theorem only_undrew {a w : World} {row : Option Nat} (h : a.drew.grownBy w row) : a.grownBy w row := ⟨h.os, h.tape, h.output, h.size, h.block⟩




end Go.Proofs.YtmgjcjacoegocaaGreatDoor.Ip

namespace Go.Proofs.YtmgjcjacoegocaaGreatDoor.Ip
set_option maxRecDepth 100000
open Go.RowKit Go.Proofs.YtmgjcjacoegocaaGreatDoor.Wire
attribute [local go_sem ↓] Go.wp_at_zero Go.wp_at_succ
theorem only_undrew5 {a w : World} {row : Option Nat} (h : a.drew.grownBy w row) : a.grownBy w row := ⟨h.os, h.tape, h.output, h.size, h.block⟩

set_option maxRecDepth 100000 in
set_option maxHeartbeats 4000000 in
theorem Decode_bad (s : ByteArray) (w : World) (HD : Hid (∀ (B : Nat) (w : World), w.heap[B]? = some (.cells #[.string s, .int .i64 0, .bool false, .int .i64 0, .int .i64 0, .int .i64 0, .int .i64 0, .int .i64 0, .bool false, .bool false, .int .i64 0, .string ⟨#[]⟩, .int .i64 0] 158) → Calls Tryz.prog 61 #[.pointer (some ⟨B, 0, none⟩)] w fun e w' => e = .returned (.bool false) ∧ w.grownBy w' (some B))) :
    Calls Tryz.prog 16 #[.string s] w fun e w' => e = .returned (.tuple #[.agg #[.int .i64 0, .int .i64 0, .int .i64 0, .int .i64 0, .int .i64 0, .bool false, .bool false, .int .i64 0, .string ⟨#[]⟩], .int .i64 60]) ∧ Below w.heap.size w w' := by
  go_enter Tryz.func16, Tryz.ntmps16
  have HB := Below.refl w.heap.size w
  have Hr := Lib.hid (alloc_new' w (.cells #[.int .i64 0, .int .i64 0, .int .i64 0, .int .i64 0, .int .i64 0, .bool false, .bool false, .int .i64 0, .string ⟨#[]⟩] 48) (w.heap.size) (by simp))
  have HB' := below_alloc (o := .cells #[.int .i64 0, .int .i64 0, .int .i64 0, .int .i64 0, .int .i64 0, .bool false, .bool false, .int .i64 0, .string ⟨#[]⟩] 48) HB; clear HB; have HB := HB'; clear HB'
  have Hd := Lib.hid (alloc_new' (w.alloc (.cells #[.int .i64 0, .int .i64 0, .int .i64 0, .int .i64 0, .int .i64 0, .bool false, .bool false, .int .i64 0, .string ⟨#[]⟩] 48)) (.cells #[.string s, .int .i64 0, .bool false, .int .i64 0, .int .i64 0, .int .i64 0, .int .i64 0, .int .i64 0, .bool false, .bool false, .int .i64 0, .string ⟨#[]⟩, .int .i64 0] 158) (w.heap.size + 1) (by simp))
  have Hr' := Lib.hid (block_alloc Hr.out (.cells #[.string s, .int .i64 0, .bool false, .int .i64 0, .int .i64 0, .int .i64 0, .int .i64 0, .int .i64 0, .bool false, .bool false, .int .i64 0, .string ⟨#[]⟩, .int .i64 0] 158)); clear Hr; have Hr := Hr'; clear Hr'
  have HB' := below_alloc (o := .cells #[.string s, .int .i64 0, .bool false, .int .i64 0, .int .i64 0, .int .i64 0, .int .i64 0, .int .i64 0, .bool false, .bool false, .int .i64 0, .string ⟨#[]⟩, .int .i64 0] 158) HB; clear HB; have HB := HB'; clear HB'
  go_upto_region 2 with fail
  go_cut [17] (fun s17 wx => s17 = .bool true ∧ Below w.heap.size w wx ∧ wx.heap[w.heap.size]? = some (.cells #[.int .i64 0, .int .i64 0, .int .i64 0, .int .i64 0, .int .i64 0, .bool false, .bool false, .int .i64 0, .string ⟨#[]⟩] 48))
  case first =>
    first | (go_region_with (first | (go_at_call 61; refine (HD.out _ _ (by exact Hd.out)).mono ?_; rintro e w1 ⟨rfl, hg0⟩))) | fail
    all_goals
      have hg := only_undrew5 hg0; clear hg0
      have Hr' := Lib.hid (bblock_only hg Hr.out (by simp))
      have HB' := below_only HB hg (by omega)
      go_wp2_with fail
      go_meet
      exact ⟨rfl, HB', Hr'.out⟩
  case rest =>
    clear HB Hr Hd
    obtain ⟨rfl, HB, Hr⟩ := hcut
    have Hr' := Lib.hid Hr; clear Hr
    obtain ⟨⟨qr0, qr1, qr2, qr3, qr4, qr5, qr6, qr7, qr8⟩, zr0, zr1, zr2, zr3, zr4, zr5, zr6, zr7, zr8⟩ := cells9 Hr'.out
    go_wp2_with fail
    have HZ := cells_eq (b := #[.int .i64 0, .int .i64 0, .int .i64 0, .int .i64 0, .int .i64 0, .bool false, .bool false, .int .i64 0, .string ⟨#[]⟩]) (block_setCell (k := 8) (v := .string ⟨#[]⟩) (block_setCell (k := 7) (v := .int .i64 0) (block_setCell (k := 6) (v := .bool false) (block_setCell (k := 5) (v := .bool false) (block_setCell (k := 4) (v := .int .i64 0) (block_setCell (k := 3) (v := .int .i64 0) (block_setCell (k := 2) (v := .int .i64 0) (block_setCell (k := 1) (v := .int .i64 0) (block_setCell (k := 0) (v := .int .i64 0) Hr'.out))))))))) rfl
    refine bodyPost_ret (v := .tuple #[.agg #[.int .i64 0, .int .i64 0, .int .i64 0, .int .i64 0, .int .i64 0, .bool false, .bool false, .int .i64 0, .string ⟨#[]⟩], .int .i64 60]) ?_ rfl ⟨rfl, (Below.setCell (Below.setCell (Below.setCell (Below.setCell (Below.setCell (Below.setCell (Below.setCell (Below.setCell (Below.setCell HB (by simp) _) (by simp) _) (by simp) _) (by simp) _) (by simp) _) (by simp) _) (by simp) _) (by simp) _) (by simp) _)⟩
    exact res_cell_tmp Tryz.results16 HZ rfl Tryz.underlying48 rfl (by kernel_rfl)

set_option maxRecDepth 100000 in
set_option maxHeartbeats 4000000 in
theorem Decode_good (s : ByteArray) (w : World) (n1 n2 n3 n4 n5 n7 n8 : Int) (df mf : Bool) (h20 : 20 ≤ s.size) (hs : s.size ≤ 9223372036854775807) (hn : (((s.size - 20 : Nat) : Int) != n8) = false)
    (HD : Hid (∀ (B : Nat) (w : World), w.heap[B]? = some (.cells #[.string s, .int .i64 0, .bool false, .int .i64 0, .int .i64 0, .int .i64 0, .int .i64 0, .int .i64 0, .bool false, .bool false, .int .i64 0, .string ⟨#[]⟩, .int .i64 0] 158) → Calls Tryz.prog 61 #[.pointer (some ⟨B, 0, none⟩)] w fun e w' => e = .returned (.bool true) ∧ w'.heap[B]? = some (.cells #[.string s, .int .i64 20, .bool false, .int .i64 n1, .int .i64 n2, .int .i64 n3, .int .i64 n4, .int .i64 n5, .bool df, .bool mf, .int .i64 (8 * n7), .string ⟨#[]⟩, .int .i64 n8] 158) ∧ w.grownBy w' (some B))) :
    Calls Tryz.prog 16 #[.string s] w fun e w' => e = .returned (.tuple #[.agg #[.int .i64 n1, .int .i64 n2, .int .i64 n3, .int .i64 n4, .int .i64 n5, .bool df, .bool mf, .int .i64 (8 * n7), .string (s.extract 20 s.size)], .int .i64 0]) ∧ Below w.heap.size w w' := by
  go_enter Tryz.func16, Tryz.ntmps16
  have HB := Below.refl w.heap.size w
  have Hr := Lib.hid (alloc_new' w (.cells #[.int .i64 0, .int .i64 0, .int .i64 0, .int .i64 0, .int .i64 0, .bool false, .bool false, .int .i64 0, .string ⟨#[]⟩] 48) (w.heap.size) (by simp))
  have HB' := below_alloc (o := .cells #[.int .i64 0, .int .i64 0, .int .i64 0, .int .i64 0, .int .i64 0, .bool false, .bool false, .int .i64 0, .string ⟨#[]⟩] 48) HB; clear HB; have HB := HB'; clear HB'
  have Hd := Lib.hid (alloc_new' (w.alloc (.cells #[.int .i64 0, .int .i64 0, .int .i64 0, .int .i64 0, .int .i64 0, .bool false, .bool false, .int .i64 0, .string ⟨#[]⟩] 48)) (.cells #[.string s, .int .i64 0, .bool false, .int .i64 0, .int .i64 0, .int .i64 0, .int .i64 0, .int .i64 0, .bool false, .bool false, .int .i64 0, .string ⟨#[]⟩, .int .i64 0] 158) (w.heap.size + 1) (by simp))
  have Hr' := Lib.hid (block_alloc Hr.out (.cells #[.string s, .int .i64 0, .bool false, .int .i64 0, .int .i64 0, .int .i64 0, .int .i64 0, .int .i64 0, .bool false, .bool false, .int .i64 0, .string ⟨#[]⟩, .int .i64 0] 158)); clear Hr; have Hr := Hr'; clear Hr'
  have HB' := below_alloc (o := .cells #[.string s, .int .i64 0, .bool false, .int .i64 0, .int .i64 0, .int .i64 0, .int .i64 0, .int .i64 0, .bool false, .bool false, .int .i64 0, .string ⟨#[]⟩, .int .i64 0] 158) HB; clear HB; have HB := HB'; clear HB'
  go_upto_region 2 with fail
  go_cut [17] (fun s17 wx => s17 = .bool false ∧ Below w.heap.size w wx ∧ wx.heap[w.heap.size]? = some (.cells #[.int .i64 0, .int .i64 0, .int .i64 0, .int .i64 0, .int .i64 0, .bool false, .bool false, .int .i64 0, .string ⟨#[]⟩] 48) ∧ wx.heap[w.heap.size + 1]? = some (.cells #[.string s, .int .i64 20, .bool false, .int .i64 n1, .int .i64 n2, .int .i64 n3, .int .i64 n4, .int .i64 n5, .bool df, .bool mf, .int .i64 (8 * n7), .string ⟨#[]⟩, .int .i64 n8] 158))
  case first =>
    first | (go_region_with (first | (go_at_call 61; refine (HD.out _ _ (by exact Hd.out)).mono ?_; rintro e w1 ⟨rfl, Hd', hg0⟩; have Hd2 := Lib.hid Hd'; have qd12 := (cell_of_block (k := 12) Hd2.out rfl).1) | (go_at_call 62; refine (rest_any (w.heap.size + 1) s 20 (.bool false) (.int .i64 n1) (.int .i64 n2) (.int .i64 n3) (.int .i64 n4) (.int .i64 n5) (.bool df) (.bool mf) (.int .i64 (8 * n7)) (.string ⟨#[]⟩) (.int .i64 n8) _ (by exact Hd2.out) (by omega) hs).mono ?_; rintro e w2 ⟨rfl, hb2⟩; have qd12b := bcell hb2 qd12))) | fail
    all_goals
      have hg := only_undrew5 hg0; clear hg0
      have Hr' := Lib.hid (bblock_only hg Hr.out (by simp))
      have HB' := below_only HB hg (by omega)
      have HB2 := below_call HB' hb2; have Hr2 := Lib.hid (bblock hb2 Hr'.out); have Hd3 := Lib.hid (bblock hb2 Hd2.out)
      go_wp2_with fail
      go_meet
      exact ⟨rfl, HB2, Hr2.out, Hd3.out⟩
  case rest =>
    clear HB Hr Hd
    obtain ⟨rfl, HB, Hr, Hd⟩ := hcut
    have Hr' := Lib.hid Hr; clear Hr; have Hd' := Lib.hid Hd; clear Hd; have Hd := Hd'; have Hr := Hr'; clear Hd' Hr'
    have Hx := rest_any (w.heap.size + 1) s 20 (.bool false) (.int .i64 n1) (.int .i64 n2) (.int .i64 n3) (.int .i64 n4) (.int .i64 n5) (.bool df) (.bool mf) (.int .i64 (8 * n7)) (.string ⟨#[]⟩) (.int .i64 n8) _ Hd.out (by omega) hs; have HX := Lib.hid Hx; clear Hx
    go_wp2_with fail
    refine (HX.out).mono ?_
    rintro e w3 ⟨rfl, hb3⟩
    have HB' := below_call HB hb3; have Hr' := Lib.hid (bblock hb3 Hr.out); have Hd' := Lib.hid (bblock hb3 Hd.out); clear hb3 HX HB Hr Hd; have HB := HB'; have Hr := Hr'; have Hd := Hd'; clear HB' Hr' Hd'
    have Hd' := Lib.hid (cells_eq (b := #[.string s, .int .i64 20, .bool false, .int .i64 n1, .int .i64 n2, .int .i64 n3, .int .i64 n4, .int .i64 n5, .bool df, .bool mf, .int .i64 (8 * n7), .string (s.extract 20 s.size), .int .i64 n8]) (block_setCell (k := 11) (v := .string (s.extract 20 s.size)) Hd.out) rfl)
    have Hr' := Lib.hid (block_set_other (a := ⟨w.heap.size + 1, 11, none⟩) (u := .string (s.extract 20 s.size)) Hr.out (by simp))
    have HB' := Below.setCell HB (p := ⟨w.heap.size + 1, 11, none⟩) (by simp) (.string (s.extract 20 s.size))
    have qd11 := (cell_of_block (k := 11) Hd.out rfl).1; have zd11 := (cell_of_block (k := 11) Hd.out rfl).2
    obtain ⟨⟨qr0, qr1, qr2, qr3, qr4, qr5, qr6, qr7, qr8⟩, zr0, zr1, zr2, zr3, zr4, zr5, zr6, zr7, zr8⟩ := cells9 Hr.out
    obtain ⟨⟨qd0, qd1, qd2, qd3, qd4, qd5, qd6, qd7, qd8, qd9, qd10, _, qd12⟩, _⟩ := cells13 Hd.out
    go_wp2_with fail
    have HZ := cells_eq (b := #[.int .i64 n1, .int .i64 n2, .int .i64 n3, .int .i64 n4, .int .i64 n5, .bool df, .bool mf, .int .i64 (8 * n7), .string (s.extract 20 s.size)]) (block_setCell (k := 8) (v := .string (s.extract 20 s.size)) (block_setCell (k := 7) (v := .int .i64 (8 * n7)) (block_setCell (k := 6) (v := .bool mf) (block_setCell (k := 5) (v := .bool df) (block_setCell (k := 4) (v := .int .i64 n5) (block_setCell (k := 3) (v := .int .i64 n4) (block_setCell (k := 2) (v := .int .i64 n3) (block_setCell (k := 1) (v := .int .i64 n2) (block_setCell (k := 0) (v := .int .i64 n1) Hr'.out))))))))) rfl
    refine bodyPost_ret (v := .tuple #[.agg #[.int .i64 n1, .int .i64 n2, .int .i64 n3, .int .i64 n4, .int .i64 n5, .bool df, .bool mf, .int .i64 (8 * n7), .string (s.extract 20 s.size)], .int .i64 0]) ?_ rfl ⟨rfl, (Below.setCell (Below.setCell (Below.setCell (Below.setCell (Below.setCell (Below.setCell (Below.setCell (Below.setCell (Below.setCell HB' (by simp) _) (by simp) _) (by simp) _) (by simp) _) (by simp) _) (by simp) _) (by simp) _) (by simp) _) (by simp) _)⟩
    exact res_cell_tmp Tryz.results16 HZ rfl Tryz.underlying48 rfl (by kernel_rfl)

set_option maxRecDepth 100000 in
set_option maxHeartbeats 4000000 in
theorem Decode_other (s : ByteArray) (w : World) (n1 n2 n3 n4 n5 n7 n8 : Int) (df mf : Bool) (h20 : 20 ≤ s.size) (hs : s.size ≤ 9223372036854775807) (hn : (((s.size - 20 : Nat) : Int) != n8) = true)
    (HD : Hid (∀ (B : Nat) (w : World), w.heap[B]? = some (.cells #[.string s, .int .i64 0, .bool false, .int .i64 0, .int .i64 0, .int .i64 0, .int .i64 0, .int .i64 0, .bool false, .bool false, .int .i64 0, .string ⟨#[]⟩, .int .i64 0] 158) → Calls Tryz.prog 61 #[.pointer (some ⟨B, 0, none⟩)] w fun e w' => e = .returned (.bool true) ∧ w'.heap[B]? = some (.cells #[.string s, .int .i64 20, .bool false, .int .i64 n1, .int .i64 n2, .int .i64 n3, .int .i64 n4, .int .i64 n5, .bool df, .bool mf, .int .i64 (8 * n7), .string ⟨#[]⟩, .int .i64 n8] 158) ∧ w.grownBy w' (some B))) :
    Calls Tryz.prog 16 #[.string s] w fun e w' => e = .returned (.tuple #[.agg #[.int .i64 0, .int .i64 0, .int .i64 0, .int .i64 0, .int .i64 0, .bool false, .bool false, .int .i64 0, .string ⟨#[]⟩], .int .i64 60]) ∧ Below w.heap.size w w' := by
  go_enter Tryz.func16, Tryz.ntmps16
  have HB := Below.refl w.heap.size w
  have Hr := Lib.hid (alloc_new' w (.cells #[.int .i64 0, .int .i64 0, .int .i64 0, .int .i64 0, .int .i64 0, .bool false, .bool false, .int .i64 0, .string ⟨#[]⟩] 48) (w.heap.size) (by simp))
  have HB' := below_alloc (o := .cells #[.int .i64 0, .int .i64 0, .int .i64 0, .int .i64 0, .int .i64 0, .bool false, .bool false, .int .i64 0, .string ⟨#[]⟩] 48) HB; clear HB; have HB := HB'; clear HB'
  have Hd := Lib.hid (alloc_new' (w.alloc (.cells #[.int .i64 0, .int .i64 0, .int .i64 0, .int .i64 0, .int .i64 0, .bool false, .bool false, .int .i64 0, .string ⟨#[]⟩] 48)) (.cells #[.string s, .int .i64 0, .bool false, .int .i64 0, .int .i64 0, .int .i64 0, .int .i64 0, .int .i64 0, .bool false, .bool false, .int .i64 0, .string ⟨#[]⟩, .int .i64 0] 158) (w.heap.size + 1) (by simp))
  have Hr' := Lib.hid (block_alloc Hr.out (.cells #[.string s, .int .i64 0, .bool false, .int .i64 0, .int .i64 0, .int .i64 0, .int .i64 0, .int .i64 0, .bool false, .bool false, .int .i64 0, .string ⟨#[]⟩, .int .i64 0] 158)); clear Hr; have Hr := Hr'; clear Hr'
  have HB' := below_alloc (o := .cells #[.string s, .int .i64 0, .bool false, .int .i64 0, .int .i64 0, .int .i64 0, .int .i64 0, .int .i64 0, .bool false, .bool false, .int .i64 0, .string ⟨#[]⟩, .int .i64 0] 158) HB; clear HB; have HB := HB'; clear HB'
  go_upto_region 2 with fail
  go_cut [17] (fun s17 wx => s17 = .bool true ∧ Below w.heap.size w wx ∧ wx.heap[w.heap.size]? = some (.cells #[.int .i64 0, .int .i64 0, .int .i64 0, .int .i64 0, .int .i64 0, .bool false, .bool false, .int .i64 0, .string ⟨#[]⟩] 48) ∧ wx.heap[w.heap.size + 1]? = some (.cells #[.string s, .int .i64 20, .bool false, .int .i64 n1, .int .i64 n2, .int .i64 n3, .int .i64 n4, .int .i64 n5, .bool df, .bool mf, .int .i64 (8 * n7), .string ⟨#[]⟩, .int .i64 n8] 158))
  case first =>
    first | (go_region_with (first | (go_at_call 61; refine (HD.out _ _ (by exact Hd.out)).mono ?_; rintro e w1 ⟨rfl, Hd', hg0⟩; have Hd2 := Lib.hid Hd'; have qd12 := (cell_of_block (k := 12) Hd2.out rfl).1) | (go_at_call 62; refine (rest_any (w.heap.size + 1) s 20 (.bool false) (.int .i64 n1) (.int .i64 n2) (.int .i64 n3) (.int .i64 n4) (.int .i64 n5) (.bool df) (.bool mf) (.int .i64 (8 * n7)) (.string ⟨#[]⟩) (.int .i64 n8) _ (by exact Hd2.out) (by omega) hs).mono ?_; rintro e w2 ⟨rfl, hb2⟩; have qd12b := bcell hb2 qd12))) | fail
    all_goals
      have hg := only_undrew5 hg0; clear hg0
      have Hr' := Lib.hid (bblock_only hg Hr.out (by simp))
      have HB' := below_only HB hg (by omega)
      have HB2 := below_call HB' hb2; have Hr2 := Lib.hid (bblock hb2 Hr'.out); have Hd3 := Lib.hid (bblock hb2 Hd2.out)
      go_wp2_with fail
      go_meet
      exact ⟨rfl, HB2, Hr2.out, Hd3.out⟩
  case rest =>
    clear HB Hr Hd
    obtain ⟨rfl, HB, Hr, Hd⟩ := hcut
    have Hr' := Lib.hid Hr; clear Hr; have Hd' := Lib.hid Hd; clear Hd; have Hd := Hd'; have Hr := Hr'; clear Hd' Hr'
    obtain ⟨⟨qr0, qr1, qr2, qr3, qr4, qr5, qr6, qr7, qr8⟩, zr0, zr1, zr2, zr3, zr4, zr5, zr6, zr7, zr8⟩ := cells9 Hr.out
    go_wp2_with fail
    have HZ := cells_eq (b := #[.int .i64 0, .int .i64 0, .int .i64 0, .int .i64 0, .int .i64 0, .bool false, .bool false, .int .i64 0, .string ⟨#[]⟩]) (block_setCell (k := 8) (v := .string ⟨#[]⟩) (block_setCell (k := 7) (v := .int .i64 0) (block_setCell (k := 6) (v := .bool false) (block_setCell (k := 5) (v := .bool false) (block_setCell (k := 4) (v := .int .i64 0) (block_setCell (k := 3) (v := .int .i64 0) (block_setCell (k := 2) (v := .int .i64 0) (block_setCell (k := 1) (v := .int .i64 0) (block_setCell (k := 0) (v := .int .i64 0) Hr.out))))))))) rfl
    refine bodyPost_ret (v := .tuple #[.agg #[.int .i64 0, .int .i64 0, .int .i64 0, .int .i64 0, .int .i64 0, .bool false, .bool false, .int .i64 0, .string ⟨#[]⟩], .int .i64 60]) ?_ rfl ⟨rfl, (Below.setCell (Below.setCell (Below.setCell (Below.setCell (Below.setCell (Below.setCell (Below.setCell (Below.setCell (Below.setCell HB (by simp) _) (by simp) _) (by simp) _) (by simp) _) (by simp) _) (by simp) _) (by simp) _) (by simp) _) (by simp) _)⟩
    exact res_cell_tmp Tryz.results16 HZ rfl Tryz.underlying48 rfl (by kernel_rfl)

end Go.Proofs.YtmgjcjacoegocaaGreatDoor.Ip

namespace Go.Proofs.YtmgjcjacoegocaaGreatDoor.Ip
set_option maxRecDepth 100000
open Go.RowKit Go.Proofs.YtmgjcjacoegocaaGreatDoor.Wire

/-- the number in k bytes from a on -/
def nAt (s : ByteArray) (a k : Nat) : Int := num (bytesAt s a k)
def dfOf (s : ByteArray) : Bool := bits .and .i64 (nAt s 13 1) 1 != 0
def mfOf (s : ByteArray) : Bool := bits .and .i64 (nAt s 13 1) 2 != 0
/-- the first 20 bytes are the header of a valid datagram -/
def dV (s : ByteArray) : Prop := 20 ≤ s.size ∧ nAt s 0 1 = 4 ∧ VLen (nAt s 1 4) (nAt s 5 4) (nAt s 9 1) (nAt s 10 1) (nAt s 11 2) (dfOf s) (mfOf s) (8 * nAt s 14 2) (nAt s 16 2) ∧ hdr (nAt s 1 4) (nAt s 5 4) (nAt s 9 1) (nAt s 10 1) (nAt s 11 2) (dfOf s) (mfOf s) (8 * nAt s 14 2) (nAt s 16 2) = s.data.toList.take 20
theorem nAt_bd (s : ByteArray) (a k : Nat) : 0 ≤ nAt s a k ∧ nAt s a k < 256 ^ k := by
  have h := num_bd (bytesAt s a k)
  have hl := bytesAt_len_le s a k
  have hp : (256 : Int) ^ (bytesAt s a k).length ≤ 256 ^ k := by
    have := Nat.pow_le_pow_right (n := 256) (by omega) hl
    have e : ∀ n : Nat, (256 : Int) ^ n = ((256 ^ n : Nat) : Int) := fun n => by rw [Int.natCast_pow]; rfl
    rw [e, e]; exact Int.ofNat_le.2 this
  unfold nAt; omega
theorem take20 (s : ByteArray) : (s.extract 0 20).toList = s.data.toList.take 20 := by
  rw [ByteArray.toList_eq]; simp [ByteArray.data_extract, Array.toList_extract]
theorem dheader_true (s : ByteArray) (hs : s.size ≤ 9223372036854775807) (h : dV s) : ∀ (B : Nat) (w : World), w.heap[B]? = some (.cells #[.string s, .int .i64 0, .bool false, .int .i64 0, .int .i64 0, .int .i64 0, .int .i64 0, .int .i64 0, .bool false, .bool false, .int .i64 0, .string ⟨#[]⟩, .int .i64 0] 158) → Calls Tryz.prog 61 #[.pointer (some ⟨B, 0, none⟩)] w fun e w' => e = .returned (.bool true) ∧ w'.heap[B]? = some (.cells #[.string s, .int .i64 20, .bool false, .int .i64 (nAt s 1 4), .int .i64 (nAt s 5 4), .int .i64 (nAt s 9 1), .int .i64 (nAt s 10 1), .int .i64 (nAt s 11 2), .bool (dfOf s), .bool (mfOf s), .int .i64 (8 * nAt s 14 2), .string ⟨#[]⟩, .int .i64 (nAt s 16 2)] 158) ∧ w.grownBy w' (some B) := by
  intro B w hB
  obtain ⟨h1, h2, h3, h4⟩ := h
  have b7 := nAt_bd s 14 2
  have b8 := nAt_bd s 16 2
  refine dheader_long B s w (nAt s 0 1) (nAt s 1 4) (nAt s 5 4) (nAt s 9 1) (nAt s 10 1) (nAt s 11 2) (nAt s 13 1) (nAt s 14 2) (nAt s 16 2) (nAt s 18 2) (dfOf s) (mfOf s) true (hdr (nAt s 1 4) (nAt s 5 4) (nAt s 9 1) (nAt s 10 1) (nAt s 11 2) (dfOf s) (mfOf s) (8 * nAt s 14 2) (nAt s 16 2)) hB h1 hs (Lib.hid rfl) (Lib.hid rfl) (Lib.hid rfl) (Lib.hid rfl) (Lib.hid rfl) (Lib.hid rfl) (Lib.hid rfl) (Lib.hid rfl) (Lib.hid rfl) (Lib.hid rfl) (by simp [h2]) rfl rfl (by omega) (by omega) (Lib.hid fun w => header_ok _ _ _ _ _ _ _ _ ⟨#[]⟩ _ w b8.1 h3) ?_
  rw [take20, h4]; simp
theorem dheader_false (s : ByteArray) (hs : s.size ≤ 9223372036854775807) (h : ¬ dV s) : ∀ (B : Nat) (w : World), w.heap[B]? = some (.cells #[.string s, .int .i64 0, .bool false, .int .i64 0, .int .i64 0, .int .i64 0, .int .i64 0, .int .i64 0, .bool false, .bool false, .int .i64 0, .string ⟨#[]⟩, .int .i64 0] 158) → Calls Tryz.prog 61 #[.pointer (some ⟨B, 0, none⟩)] w fun e w' => e = .returned (.bool false) ∧ w.grownBy w' (some B) := by
  intro B w hB
  rcases Nat.lt_or_ge s.size 1 with c | c1
  · exact dheader_empty B s w hB (by omega)
  by_cases hv : nAt s 0 1 = 4
  · rcases Nat.lt_or_ge s.size 20 with c | c20
    · exact dheader_short B s w hB c1 c hs (Lib.hid hv)
    · have b7 := nAt_bd s 14 2
      have b8 := nAt_bd s 16 2
      by_cases h3 : VLen (nAt s 1 4) (nAt s 5 4) (nAt s 9 1) (nAt s 10 1) (nAt s 11 2) (dfOf s) (mfOf s) (8 * nAt s 14 2) (nAt s 16 2)
      · refine (dheader_long B s w (nAt s 0 1) (nAt s 1 4) (nAt s 5 4) (nAt s 9 1) (nAt s 10 1) (nAt s 11 2) (nAt s 13 1) (nAt s 14 2) (nAt s 16 2) (nAt s 18 2) (dfOf s) (mfOf s) false (hdr (nAt s 1 4) (nAt s 5 4) (nAt s 9 1) (nAt s 10 1) (nAt s 11 2) (dfOf s) (mfOf s) (8 * nAt s 14 2) (nAt s 16 2)) hB c20 hs (Lib.hid rfl) (Lib.hid rfl) (Lib.hid rfl) (Lib.hid rfl) (Lib.hid rfl) (Lib.hid rfl) (Lib.hid rfl) (Lib.hid rfl) (Lib.hid rfl) (Lib.hid rfl) (by simp [hv]) rfl rfl (by omega) (by omega) (Lib.hid fun w => header_ok _ _ _ _ _ _ _ _ ⟨#[]⟩ _ w b8.1 h3) ?_).mono fun _ _ ⟨a, _, b⟩ => ⟨a, b⟩
        rw [take20]
        simp only [beq_eq_false_iff_ne]
        exact fun he => h ⟨c20, hv, h3, he⟩
      · refine (dheader_long B s w (nAt s 0 1) (nAt s 1 4) (nAt s 5 4) (nAt s 9 1) (nAt s 10 1) (nAt s 11 2) (nAt s 13 1) (nAt s 14 2) (nAt s 16 2) (nAt s 18 2) (dfOf s) (mfOf s) false [] hB c20 hs (Lib.hid rfl) (Lib.hid rfl) (Lib.hid rfl) (Lib.hid rfl) (Lib.hid rfl) (Lib.hid rfl) (Lib.hid rfl) (Lib.hid rfl) (Lib.hid rfl) (Lib.hid rfl) (by simp [hv]) rfl rfl (by omega) (by omega) (Lib.hid fun w => header_no _ _ _ _ _ _ _ _ ⟨#[]⟩ _ w b8.1 (by omega) h3) ?_).mono fun _ _ ⟨a, _, b⟩ => ⟨a, b⟩
        rw [take20]
        simp only [beq_eq_false_iff_ne]
        intro he
        have := congrArg List.length he
        have e2 : s.data.toList.length = s.size := rfl
        rw [List.length_take, e2] at this
        simp at this; omega
  · exact dheader_ver B s w (nAt s 0 1) hB c1 hs (Lib.hid rfl) (by simpa using hv)

/-- what DecodeHeader accepts, what Decode accepts -/
def dhOk (s : ByteArray) : Prop := dV s ∧ ((s.size - 20 : Nat) : Int) ≤ nAt s 16 2
def dcOk (s : ByteArray) : Prop := dV s ∧ ((s.size - 20 : Nat) : Int) = nAt s 16 2
def pkOf (s : ByteArray) : Value := .agg #[.int .i64 (nAt s 1 4), .int .i64 (nAt s 5 4), .int .i64 (nAt s 9 1), .int .i64 (nAt s 10 1), .int .i64 (nAt s 11 2), .bool (dfOf s), .bool (mfOf s), .int .i64 (8 * nAt s 14 2), .string (s.extract 20 s.size)]
def pk0 : Value := .agg #[.int .i64 0, .int .i64 0, .int .i64 0, .int .i64 0, .int .i64 0, .bool false, .bool false, .int .i64 0, .string ⟨#[]⟩]
theorem Decode_ok (s : ByteArray) (w : World) (hs : s.size ≤ 9223372036854775807) (h : dcOk s) :
    Calls Tryz.prog 16 #[.string s] w fun e w' => e = .returned (.tuple #[pkOf s, .int .i64 0]) ∧ Below w.heap.size w w' :=
  Decode_good s w _ _ _ _ _ (nAt s 14 2) _ _ _ h.1.1 hs (by have := h.2; simp; omega) (Lib.hid (dheader_true s hs h.1))
theorem Decode_no (s : ByteArray) (w : World) (hs : s.size ≤ 9223372036854775807) (h : ¬ dcOk s) :
    Calls Tryz.prog 16 #[.string s] w fun e w' => e = .returned (.tuple #[pk0, .int .i64 60]) ∧ Below w.heap.size w w' := by
  by_cases hd : dV s
  · have hl : ¬ ((s.size - 20 : Nat) : Int) = nAt s 16 2 := fun q => h ⟨hd, q⟩
    exact Decode_other s w _ _ _ _ _ (nAt s 14 2) _ _ _ hd.1 hs (by simp; omega) (Lib.hid (dheader_true s hs hd))
  · exact Decode_bad s w (Lib.hid (dheader_false s hs hd))
end Go.Proofs.YtmgjcjacoegocaaGreatDoor.Ip

namespace Go.Proofs.YtmgjcjacoegocaaGreatDoor.Ip
set_option maxRecDepth 100000
open Go.RowKit Go.Proofs.YtmgjcjacoegocaaGreatDoor.Wire

/-- a datagram -/
structure Pk where
  f : Int
  t : Int
  pr : Int
  ttl : Int
  id : Int
  df : Bool
  mf : Bool
  off : Int
  s : ByteArray
def Pk.cells (p : Pk) : List Value := [.int .i64 p.f, .int .i64 p.t, .int .i64 p.pr, .int .i64 p.ttl, .int .i64 p.id, .bool p.df, .bool p.mf, .int .i64 p.off, .string p.s]
def Pk.val (p : Pk) : Value := .agg #[.int .i64 p.f, .int .i64 p.t, .int .i64 p.pr, .int .i64 p.ttl, .int .i64 p.id, .bool p.df, .bool p.mf, .int .i64 p.off, .string p.s]
/-- the k-th fragment, each but the last with n bytes -/
def pieceAt (p : Pk) (n k : Nat) : Pk :=
  { p with off := p.off + (n * k : Nat), s := p.s.extract (n * k) (min (n * k + n) p.s.size), mf := p.mf || decide (n * k + n < p.s.size) }
def count (p : Pk) (n : Nat) : Nat := (p.s.size + n - 1) / n
def frags (p : Pk) (n k : Nat) : List Pk := (List.range k).map (pieceAt p n)
theorem frags_succ (p : Pk) (n k : Nat) : frags p n (k + 1) = frags p n k ++ [pieceAt p n k] := by simp [frags, List.range_succ]
theorem frags_length (p : Pk) (n k : Nat) : (frags p n k).length = k := by simp [frags]
theorem count_lt (p : Pk) (n k : Nat) (hn : 0 < n) : k < count p n ↔ n * k < p.s.size := by
  unfold count
  rw [Nat.lt_div_iff_mul_lt hn, Nat.mul_comm]; omega
theorem count_eq (p : Pk) (n k : Nat) (hn : 0 < n) (h : p.s.size ≤ n * k) (h' : ∀ j, j < k → n * j < p.s.size) : k = count p n := by
  have h1 : ¬ k < count p n := fun q => by have := (count_lt p n k hn).1 q; omega
  have h2 : ¬ count p n < k := fun q => by
    have := h' _ q
    exact Nat.lt_irrefl _ ((count_lt p n (count p n) hn).2 this)
  omega

theorem count_le (p : Pk) (n : Nat) (hn : 0 < n) : count p n ≤ p.s.size := by
  rcases Nat.lt_or_ge p.s.size (count p n) with h | h
  · have := (count_lt p n _ hn).1 h
    have := Nat.le_mul_of_pos_left p.s.size hn
    omega
  · exact h

/-- what a round keeps: the block B is o -/
def KeepsB (B : Nat) (o : Obj) (W W' : World) : Prop := W.heap[B]? = some o → W'.heap[B]? = some o
theorem keepsB_t {B : Nat} {o : Obj} {X Y Z : World} (h : KeepsB B o X Y) (k : KeepsB B o Y Z) : KeepsB B o X Z := fun x => k (h x)
theorem keepsB_put {B : Nat} {o : Obj} (ho : o.isCells = true) {W : World} {l : Nat} {x x' : Obj} (h : W.heap[l]? = some x) (hx : x.isCells = false) : KeepsB B o W (W.putObj l x') := fun hB => by
  have hne : l ≠ B := by
    rintro rfl
    rw [hB] at h; cases h; rw [ho] at hx; cases hx
  exact (World.putObj_heap_other hne.symm).trans hB
end Go.Proofs.YtmgjcjacoegocaaGreatDoor.Ip

namespace Go.Proofs.YtmgjcjacoegocaaGreatDoor.Ip
set_option maxRecDepth 100000
open Go.RowKit Go.Proofs.YtmgjcjacoegocaaGreatDoor.Wire

/-- a valid datagram -/
def Pk.ok (p : Pk) : Prop := VLen p.f p.t p.pr p.ttl p.id p.df p.mf p.off p.s.size
/-- its header, and its encoding -/
def hd (p : Pk) (n : Int) : List UInt8 := hdr p.f p.t p.pr p.ttl p.id p.df p.mf p.off n
def encP (p : Pk) : List UInt8 := hd p p.s.size ++ p.s.data.toList
theorem encP_length (p : Pk) : (encP p).length = 20 + p.s.size := by
  unfold encP hd
  rw [List.length_append, hdr_length]; rfl
theorem midL (x y z : List UInt8) (a k : Nat) (hx : x.length = a) (hy : y.length = k) : ((x ++ (y ++ z)).drop a).take k = y := by
  subst hx; subst hy; simp
theorem mid_num (L x z : List UInt8) (a k : Nat) (n : Int) (h : L = x ++ (be k n ++ z)) (hx : x.length = a) (h0 : 0 ≤ n) (h1 : n < 256 ^ k) : nAt ⟨L.toArray⟩ a k = n := by
  show num ((L.drop a).take k) = n
  rw [h, midL x (be k n) z a k hx (be_length k n), num_be k n h0 h1]
theorem dfOf_eq (s : ByteArray) (df mf : Bool) (h : nAt s 13 1 = flagsOf df mf) : dfOf s = df ∧ mfOf s = mf := by
  unfold dfOf mfOf
  rw [h]
  cases df <;> cases mf <;> decide
/-- the fields that stand in any string which begins with the header -/
theorem fields (p : Pk) (n : Int) (z : List UInt8) (h : VLen p.f p.t p.pr p.ttl p.id p.df p.mf p.off n) (h0 : 0 ≤ n) :
    nAt ⟨(hd p n ++ z).toArray⟩ 0 1 = 4 ∧ nAt ⟨(hd p n ++ z).toArray⟩ 1 4 = p.f ∧ nAt ⟨(hd p n ++ z).toArray⟩ 5 4 = p.t ∧ nAt ⟨(hd p n ++ z).toArray⟩ 9 1 = p.pr ∧ nAt ⟨(hd p n ++ z).toArray⟩ 10 1 = p.ttl ∧ nAt ⟨(hd p n ++ z).toArray⟩ 11 2 = p.id ∧
      dfOf ⟨(hd p n ++ z).toArray⟩ = p.df ∧ mfOf ⟨(hd p n ++ z).toArray⟩ = p.mf ∧ 8 * nAt ⟨(hd p n ++ z).toArray⟩ 14 2 = p.off ∧ nAt ⟨(hd p n ++ z).toArray⟩ 16 2 = n := by
  obtain ⟨f, t, pr, ttl, id, df, mf, off, s⟩ := p
  obtain ⟨⟨a1, a2, a3, a4⟩, ⟨a5, a6, a7, a8, a9, a10⟩, ⟨a11, a12, a13, a14⟩, -, -, -⟩ := h
  have hfl := flagsOf_bd df mf
  dsimp only at *
  generalize hc : be 2 (csum ⟨(front f t pr ttl id df mf off n ++ [0, 0]).toArray⟩) = c
  have hL : hd ⟨f, t, pr, ttl, id, df, mf, off, s⟩ n ++ z = be 1 4 ++ (be 4 f ++ (be 4 t ++ (be 1 pr ++ (be 1 ttl ++ (be 2 id ++ (be 1 (flagsOf df mf) ++ (be 2 (off / 8) ++ (be 2 n ++ (c ++ z))))))))) := by
    unfold hd hdr; dsimp only; rw [hc]; simp [front, parts]
  rw [hL]
  have hdm := dfOf_eq ⟨(be 1 4 ++ (be 4 f ++ (be 4 t ++ (be 1 pr ++ (be 1 ttl ++ (be 2 id ++ (be 1 (flagsOf df mf) ++ (be 2 (off / 8) ++ (be 2 n ++ (c ++ z)))))))))).toArray⟩ df mf
    (mid_num _ (be 1 4 ++ be 4 f ++ be 4 t ++ be 1 pr ++ be 1 ttl ++ be 2 id) _ 13 1 (flagsOf df mf) (by simp only [List.append_assoc]; rfl) (by simp [be_length]) hfl.1 (by omega))
  refine ⟨mid_num _ [] _ 0 1 4 rfl rfl (by omega) (by omega), mid_num _ (be 1 4) _ 1 4 f rfl (by simp [be_length]) (by omega) (by omega), mid_num _ (be 1 4 ++ be 4 f) _ 5 4 t (by simp only [List.append_assoc]; rfl) (by simp [be_length]) (by omega) (by omega),
    mid_num _ (be 1 4 ++ be 4 f ++ be 4 t) _ 9 1 pr (by simp only [List.append_assoc]; rfl) (by simp [be_length]) (by omega) (by omega), mid_num _ (be 1 4 ++ be 4 f ++ be 4 t ++ be 1 pr) _ 10 1 ttl (by simp only [List.append_assoc]; rfl) (by simp [be_length]) (by omega) (by omega),
    mid_num _ (be 1 4 ++ be 4 f ++ be 4 t ++ be 1 pr ++ be 1 ttl) _ 11 2 id (by simp only [List.append_assoc]; rfl) (by simp [be_length]) (by omega) (by omega), hdm.1, hdm.2, ?_, ?_⟩
  · rw [mid_num _ (be 1 4 ++ be 4 f ++ be 4 t ++ be 1 pr ++ be 1 ttl ++ be 2 id ++ be 1 (flagsOf df mf)) _ 14 2 (off / 8) (by simp only [List.append_assoc]; rfl) (by simp [be_length]) (by omega) (by omega)]
    omega
  · exact mid_num _ (be 1 4 ++ be 4 f ++ be 4 t ++ be 1 pr ++ be 1 ttl ++ be 2 id ++ be 1 (flagsOf df mf) ++ be 2 (off / 8)) _ 16 2 n (by simp only [List.append_assoc]; rfl) (by simp [be_length]) (by omega) (by omega)
theorem hd_length (p : Pk) (n : Int) : (hd p n).length = 20 := hdr_length _ _ _ _ _ _ _ _ _
theorem dV_of (p : Pk) (n : Int) (z : List UInt8) (h : VLen p.f p.t p.pr p.ttl p.id p.df p.mf p.off n) (h0 : 0 ≤ n) : dV ⟨(hd p n ++ z).toArray⟩ := by
  obtain ⟨e0, e1, e2, e3, e4, e5, e6, e7, e8, e9⟩ := fields p n z h h0
  refine ⟨?_, e0, ?_, ?_⟩
  · rw [sz, List.length_append, hd_length]; omega
  · rw [e1, e2, e3, e4, e5, e6, e7, e8, e9]; exact h
  · rw [e1, e2, e3, e4, e5, e6, e7, e8, e9]
    show hd p n = (hd p n ++ z).take 20
    rw [List.take_append_of_le_length (by rw [hd_length]; omega), List.take_of_length_le (by rw [hd_length]; omega)]
theorem extract20 (l z : List UInt8) (h : l.length = 20) : (⟨(l ++ z).toArray⟩ : ByteArray).extract 20 (⟨(l ++ z).toArray⟩ : ByteArray).size = ⟨z.toArray⟩ := by
  apply ByteArray.ext
  apply Array.ext'
  rw [sz, ByteArray.data_extract]
  simp [h]
theorem pkOf_of (p : Pk) (n : Int) (z : List UInt8) (h : VLen p.f p.t p.pr p.ttl p.id p.df p.mf p.off n) (h0 : 0 ≤ n) : pkOf ⟨(hd p n ++ z).toArray⟩ = { p with s := ⟨z.toArray⟩ : Pk }.val := by
  obtain ⟨e0, e1, e2, e3, e4, e5, e6, e7, e8, e9⟩ := fields p n z h h0
  unfold pkOf Pk.val
  rw [e1, e2, e3, e4, e5, e6, e7, e8, extract20 _ _ (hd_length p n)]
/-- Decode inverts Encode -/
theorem enc_dcOk (p : Pk) (h : p.ok) : dcOk ⟨(encP p).toArray⟩ := by
  refine ⟨dV_of p p.s.size p.s.data.toList h (by omega), ?_⟩
  unfold encP
  rw [(fields p p.s.size p.s.data.toList h (by omega)).2.2.2.2.2.2.2.2.2, sz, List.length_append, hd_length]
  have : p.s.data.toList.length = p.s.size := rfl
  omega
theorem enc_pkOf (p : Pk) (h : p.ok) : pkOf ⟨(encP p).toArray⟩ = p.val := by
  unfold encP
  rw [pkOf_of p p.s.size p.s.data.toList h (by omega)]
/-- a truncated encoding -/
theorem cut_enc (p : Pk) (n : Nat) (h : 20 ≤ n) : (encP p).take n = hd p p.s.size ++ p.s.data.toList.take (n - 20) := by
  unfold encP
  rw [List.take_append, hd_length, List.take_of_length_le (by rw [hd_length]; exact h)]
theorem cut_dhOk (p : Pk) (hp : p.ok) (n : Nat) (h : 20 ≤ n) : dhOk ⟨((encP p).take n).toArray⟩ := by
  rw [cut_enc p n h]
  refine ⟨dV_of p p.s.size _ hp (by omega), ?_⟩
  rw [(fields p p.s.size (p.s.data.toList.take (n - 20)) hp (by omega)).2.2.2.2.2.2.2.2.2, sz, List.length_append, hd_length, List.length_take]
  have : p.s.data.toList.length = p.s.size := rfl
  omega
theorem cut_pkOf (p : Pk) (hp : p.ok) (n : Nat) (h : 20 ≤ n) : pkOf ⟨((encP p).take n).toArray⟩ = { p with s := ⟨(p.s.data.toList.take (n - 20)).toArray⟩ : Pk }.val := by
  rw [cut_enc p n h, pkOf_of p p.s.size _ hp (by omega)]
theorem short_no (s : ByteArray) (h : s.size < 20) : ¬ dV s := fun q => by have := q.1; omega
/-- distinct datagrams have distinct encodings -/
theorem val_inj {p q : Pk} (h : p.val = q.val) : p = q := by
  obtain ⟨f, t, pr, ttl, id, df, mf, off, s⟩ := p
  obtain ⟨f', t', pr', ttl', id', df', mf', off', s'⟩ := q
  simp only [Pk.val, Value.agg.injEq, Array.mk.injEq, List.cons.injEq, Value.int.injEq, Value.bool.injEq, Value.string.injEq, true_and, and_true] at h
  obtain ⟨rfl, rfl, rfl, rfl, rfl, rfl, rfl, rfl, rfl⟩ := h
  rfl
theorem enc_injP (p q : Pk) (hp : p.ok) (hq : q.ok) (h : encP p = encP q) : p = q :=
  val_inj (by rw [← enc_pkOf p hp, h, enc_pkOf q hq])
/-- the sum of the words of a header -/
theorem dV_sum (s : ByteArray) (h : dV s) : ws (s.data.toList.take 20) % 65535 = 0 := by
  obtain ⟨h20, -, -, he⟩ := h
  rw [← he]
  unfold hdr
  generalize hF : front (nAt s 1 4) (nAt s 5 4) (nAt s 9 1) (nAt s 10 1) (nAt s 11 2) (dfOf s) (mfOf s) (8 * nAt s 14 2) (nAt s 16 2) = F
  have hl : F.length = 18 := by rw [← hF]; exact front_length _ _ _ _ _ _ _ _ _
  have hm := csum_mod (F ++ [0, 0])
  have hb := csum_bd ⟨(F ++ [0, 0]).toArray⟩
  rw [ws_append _ _ (by omega)] at hm
  rw [ws_append _ _ (by omega), ws_be2 _ hb.1 (by omega)]
  have : ws [0, 0] = 0 := by decide
  omega
/-- one byte of the header changed: refused -/
theorem flip_no (R : List UInt8) (h : dV ⟨R.toArray⟩) (k : Nat) (hk : k < 20) (hR : 20 ≤ R.length) (v : UInt8) (hv : v ≠ R[k]'(by omega)) : ¬ dV ⟨(R.set k v).toArray⟩ := by
  intro h'
  have h1 := dV_sum _ h
  have h2 := dV_sum _ h'
  have e1 : (⟨R.toArray⟩ : ByteArray).data.toList.take 20 = R.take 20 := by simp
  have e2 : (⟨(R.set k v).toArray⟩ : ByteArray).data.toList.take 20 = (R.take 20).set k v := by simp [List.take_set]
  rw [e1] at h1
  rw [e2, ws_set _ _ _ (by rw [List.length_take]; omega)] at h2
  rw [List.getElem_take] at h2
  have hb1 := u8_bd v
  have hb2 := u8_bd (R[k]'(by omega))
  have hne : (v.toNat : Int) ≠ ((R[k]'(by omega)).toNat : Int) := fun q => hv (UInt8.toNat_inj.1 (Int.ofNat_inj.1 q))
  split at h2 <;> omega
end Go.Proofs.YtmgjcjacoegocaaGreatDoor.Ip

namespace Go.Proofs.YtmgjcjacoegocaaGreatDoor.Ip
set_option maxRecDepth 100000
open Go.RowKit Go.Shelf Go.Proofs.YtmgjcjacoegocaaGreatDoor.Wire
attribute [local go_sem] Oper.semAt_some

def KeepsPN (Bp Bn : Nat) (p : Pk) (n : Nat) (W W' : World) : Prop := KeepsB Bp (.cells p.cells.toArray 48) W W' ∧ KeepsB Bn (.cells #[.int .i64 (n : Int)] 3) W W' ∧ W.heap.size ≤ W'.heap.size

set_option maxRecDepth 100000 in
set_option maxHeartbeats 2000000 in
theorem pieces1_in (F : Fence) (m : Nat) (h6 : F.fn 90) (hro : F.round = none) (hm : 1 ≤ m) (l Bp Bn : Nat) (p : Pk) (n : Nat) (hs : p.s.size ≤ 4000) (hn : 1 ≤ n) (hn' : n ≤ 4000) (ho : 0 ≤ p.off) (ho' : p.off ≤ 4000) (J Jx : List Pk → World → Prop)
    (W : World) (hJ : AbidesFrom W.heap.size J)
    (hY : ∀ pre x W, J pre W → pre.length < count p n → YieldAt F (m - 1) Tryz.prog l #[x.val] W fun e W' =>
      (e = .returned (.bool true) ∧ J (pre ++ [x]) W' ∧ KeepsPN Bp Bn p n W W') ∨ (e = .returned (.bool false) ∧ Jx (pre ++ [x]) W'))
    (hBp : W.heap[Bp]? = some (.cells p.cells.toArray 48)) (hBn : W.heap[Bn]? = some (.cells #[.int .i64 (n : Int)] 3)) (h0 : J [] W) :
    CallsIn F m Tryz.prog 90 #[.func (.yield l) #[] #[], .pointer (some ⟨Bp, 0, none⟩), .pointer (some ⟨Bn, 0, none⟩)] W fun e W' => (∃ v, e = .returned v) ∧
      ((∃ ys, ys = frags p n (count p n) ∧ J ys W') ∨ (∃ pre : List Pk, True ∧ Jx pre W')) := by
  refine callsIn_of_wp Tryz.func90 rfl h6 ?_ hro
  simp only [Tryz.ntmps90, List.size_toArray, List.length_cons, List.length_nil, Nat.reduceAdd, Nat.reduceSub, Array.replicate_succ, Array.replicate_zero, List.push_toArray, List.append_toArray, List.nil_append, List.cons_append]
  gi_wp2
  gi_loopw [4] (fun i wr => ∃ k : Nat, i = .int .i64 ((n * k : Nat) : Int) ∧ (∀ j, j < k → n * j < p.s.size) ∧ W.heap.size ≤ wr.heap.size ∧ wr.heap[Bp]? = some (.cells p.cells.toArray 48) ∧ wr.heap[Bn]? = some (.cells #[.int .i64 (n : Int)] 3) ∧ J (frags p n k) wr)
    (fun i wr => p.s.size + n - (intOf i).toNat)
  case atStart =>
    exact ⟨0, by simp, fun j hj => by omega, Nat.le_refl _, hBp, hBn, h0⟩
  case round =>
    obtain ⟨k, rfl, hk, hW, hp, hc, hJs⟩ := hrel
    have HK := Lib.hid hk; clear hk
    have Hp := Lib.hid hp
    obtain ⟨⟨q0, q1, q2, q3, q4, q5, q6, q7, q8⟩, z0, z1, z2, z3, z4, z5, z6, z7, z8⟩ := cells9 hp
    clear hp
    have Hc := Lib.hid hc
    obtain ⟨qn, zn⟩ := cell_of_box hc
    clear hc
    have lt_p := blk_lt Hp.out
    have lt_n := blk_lt Hc.out
    by_cases hlt : n * k < p.s.size
    · have hcnt : k < count p n := (count_lt p n k hn).2 hlt
      have HX : Hid (pieceAt p n k = ⟨p.f, p.t, p.pr, p.ttl, p.id, p.df, p.mf || decide (n * k + n < p.s.size), p.off + ((n * k : Nat) : Int), p.s.extract (n * k) (min (n * k + n) p.s.size)⟩) := Lib.hid rfl
      have HN : Hid (n * (k + 1) = n * k + n) := Lib.hid (Nat.mul_succ n k)
      generalize n * k = at0 at *
      by_cases hle : at0 + n < p.s.size
      · have hmin : min (at0 + n) p.s.size = at0 + n := by omega
        rw [hmin, decide_eq_true hle, Bool.or_true] at HX
        have hmin' : min ((at0 : Int) + n) p.s.size = (at0 : Int) + n := by omega
        have hdI : decide ((at0 : Int) + n < p.s.size) = true := by simp; omega
        clear hmin
        obtain ⟨fn, tmps, assign, body, hy, hR⟩ := hY (frags p n k) ⟨p.f, p.t, p.pr, p.ttl, p.id, p.df, true, p.off + (at0 : Int), p.s.extract at0 (at0 + n)⟩ (wr.alloc (.cells #[.int .i64 p.f, .int .i64 p.t, .int .i64 p.pr, .int .i64 p.ttl, .int .i64 p.id, .bool p.df, .bool true, .int .i64 (p.off + (at0 : Int)), .string (p.s.extract at0 (at0 + n))] 48)) (hJ _ _ _ none hJs (World.grownBy_alloc wr _ none) (fun r e => by cases e)) (by rw [frags_length]; exact hcnt)
        dsimp only [Pk.val] at hy
        cases hmf : p.mf
        all_goals
          rw [hmf] at q6
          gi_wp2
          refine hR.mono ?_
          rintro e W3 (⟨rfl, hJ3, hk3⟩ | ⟨rfl, hJx3⟩)
          · obtain ⟨hk4, hk5, hg3⟩ := hk3
            have hg3 : wr.heap.size ≤ W3.heap.size := by simp at hg3; omega
            have hp3 := hk4 (block_alloc Hp.out _)
            have hc3 := hk5 (block_alloc Hc.out _)
            have Hp3 := Lib.hid hp3
            obtain ⟨qn3, zn3⟩ := cell_of_box hc3
            have Hc3 := Lib.hid hc3
            clear hp3 hc3 hk4 hk5 q0 q1 q2 q3 q4 q5 q6 q7 q8 z0 z1 z2 z3 z4 z5 z6 z7 z8 qn zn
            gi_wp2
            go_roundw
            case rel =>
              refine ⟨k + 1, ?_, ?_, ?_, Hp3.out, Hc3.out, ?_⟩
              · rw [HN.out]; go_num
              · intro j hj
                rcases Nat.lt_succ_iff_lt_or_eq.1 hj with c | c
                · exact HK.out j c
                · rw [c]; exact (count_lt p n k hn).1 hcnt
              · exact Nat.le_trans hW hg3
              · rw [frags_succ, HX.out]; exact hJ3
            case measure => simp [intOf]; omega
          · gi_wp2
            refine bodyPost_ret (results_none rfl _ _ _) rfl ?_
            exact ⟨⟨_, rfl⟩, .inr ⟨_, trivial, hJx3⟩⟩
      · by_cases hge : p.s.size < at0 + n
        · have hmin : min (at0 + n) p.s.size = p.s.size := by omega
          rw [hmin, decide_eq_false hle, Bool.or_false] at HX
          have hmin' : min ((at0 : Int) + n) p.s.size = p.s.size := by omega
          have hdJ : decide ((at0 : Int) + n ≤ p.s.size) = false := by simp; omega
          clear hmin
          obtain ⟨fn, tmps, assign, body, hy, hR⟩ := hY (frags p n k) ⟨p.f, p.t, p.pr, p.ttl, p.id, p.df, p.mf, p.off + (at0 : Int), p.s.extract at0 p.s.size⟩ (wr.alloc (.cells #[.int .i64 p.f, .int .i64 p.t, .int .i64 p.pr, .int .i64 p.ttl, .int .i64 p.id, .bool p.df, .bool p.mf, .int .i64 (p.off + (at0 : Int)), .string (p.s.extract at0 p.s.size)] 48)) (hJ _ _ _ none hJs (World.grownBy_alloc wr _ none) (fun r e => by cases e)) (by rw [frags_length]; exact hcnt)
          dsimp only [Pk.val] at hy
          cases hmf : p.mf
          all_goals
            rw [hmf] at q6
            rw [hmf] at hy hR
            gi_wp2
            refine hR.mono ?_
            rintro e W3 (⟨rfl, hJ3, hk3⟩ | ⟨rfl, hJx3⟩)
            · obtain ⟨hk4, hk5, hg3⟩ := hk3
              have hg3 : wr.heap.size ≤ W3.heap.size := by simp at hg3; omega
              have hp3 := hk4 (block_alloc Hp.out _)
              have hc3 := hk5 (block_alloc Hc.out _)
              have Hp3 := Lib.hid hp3
              obtain ⟨qn3, zn3⟩ := cell_of_box hc3
              have Hc3 := Lib.hid hc3
              clear hp3 hc3 hk4 hk5 q0 q1 q2 q3 q4 q5 q6 q7 q8 z0 z1 z2 z3 z4 z5 z6 z7 z8 qn zn
              gi_wp2
              go_roundw
              case rel =>
                refine ⟨k + 1, ?_, ?_, ?_, Hp3.out, Hc3.out, ?_⟩
                · rw [HN.out]; go_num
                · intro j hj
                  rcases Nat.lt_succ_iff_lt_or_eq.1 hj with c | c
                  · exact HK.out j c
                  · rw [c]; exact (count_lt p n k hn).1 hcnt
                · exact Nat.le_trans hW hg3
                · rw [frags_succ, HX.out, hmf]; exact hJ3
              case measure => simp [intOf]; omega
            · gi_wp2
              refine bodyPost_ret (results_none rfl _ _ _) rfl ?_
              exact ⟨⟨_, rfl⟩, .inr ⟨_, trivial, hJx3⟩⟩
        · have hmin : min (at0 + n) p.s.size = at0 + n := by omega
          rw [hmin, decide_eq_false hle, Bool.or_false] at HX
          have hmin' : min ((at0 : Int) + n) p.s.size = (at0 : Int) + n := by omega
          have hdI : decide ((at0 : Int) + n < p.s.size) = false := by simp; omega
          clear hmin
          obtain ⟨fn, tmps, assign, body, hy, hR⟩ := hY (frags p n k) ⟨p.f, p.t, p.pr, p.ttl, p.id, p.df, p.mf, p.off + (at0 : Int), p.s.extract at0 (at0 + n)⟩ (wr.alloc (.cells #[.int .i64 p.f, .int .i64 p.t, .int .i64 p.pr, .int .i64 p.ttl, .int .i64 p.id, .bool p.df, .bool p.mf, .int .i64 (p.off + (at0 : Int)), .string (p.s.extract at0 (at0 + n))] 48)) (hJ _ _ _ none hJs (World.grownBy_alloc wr _ none) (fun r e => by cases e)) (by rw [frags_length]; exact hcnt)
          dsimp only [Pk.val] at hy
          cases hmf : p.mf
          all_goals
            rw [hmf] at q6
            rw [hmf] at hy hR
            gi_wp2
            refine hR.mono ?_
            rintro e W3 (⟨rfl, hJ3, hk3⟩ | ⟨rfl, hJx3⟩)
            · obtain ⟨hk4, hk5, hg3⟩ := hk3
              have hg3 : wr.heap.size ≤ W3.heap.size := by simp at hg3; omega
              have hp3 := hk4 (block_alloc Hp.out _)
              have hc3 := hk5 (block_alloc Hc.out _)
              have Hp3 := Lib.hid hp3
              obtain ⟨qn3, zn3⟩ := cell_of_box hc3
              have Hc3 := Lib.hid hc3
              clear hp3 hc3 hk4 hk5 q0 q1 q2 q3 q4 q5 q6 q7 q8 z0 z1 z2 z3 z4 z5 z6 z7 z8 qn zn
              gi_wp2
              go_roundw
              case rel =>
                refine ⟨k + 1, ?_, ?_, ?_, Hp3.out, Hc3.out, ?_⟩
                · rw [HN.out]; go_num
                · intro j hj
                  rcases Nat.lt_succ_iff_lt_or_eq.1 hj with c | c
                  · exact HK.out j c
                  · rw [c]; exact (count_lt p n k hn).1 hcnt
                · exact Nat.le_trans hW hg3
                · rw [frags_succ, HX.out, hmf]; exact hJ3
              case measure => simp [intOf]; omega
            · gi_wp2
              refine bodyPost_ret (results_none rfl _ _ _) rfl ?_
              exact ⟨⟨_, rfl⟩, .inr ⟨_, trivial, hJx3⟩⟩
    · have HE : Hid (k = count p n) := Lib.hid (count_eq p n k hn (by omega) HK.out)
      generalize n * k = at0 at *
      gi_wp2
      go_end0
      exact ⟨⟨_, rfl⟩, .inl ⟨_, rfl, by rw [← HE.out]; exact hJs⟩⟩
end Go.Proofs.YtmgjcjacoegocaaGreatDoor.Ip

namespace Go.Proofs.YtmgjcjacoegocaaGreatDoor.Ip
set_option maxRecDepth 100000
open Go.RowKit Go.Shelf Go.Proofs.YtmgjcjacoegocaaGreatDoor.Wire
attribute [local go_sem] Oper.semAt_some

theorem pieces_stops (F : Fence) (m : Nat) (h6 : F.fn 90) (hro : F.round = none) (hm : 1 ≤ m) (Bp Bn : Nat) (p : Pk) (n : Nat) (hs : p.s.size ≤ 4000) (hn : 1 ≤ n) (hn' : n ≤ 4000) (ho : 0 ≤ p.off) (ho' : p.off ≤ 4000) (w : World)
    (hBp : w.heap[Bp]? = some (.cells p.cells.toArray 48)) (hBn : w.heap[Bn]? = some (.cells #[.int .i64 (n : Int)] 3)) :
    SeqStopsK F m Tryz.prog 90 #[.pointer (some ⟨Bp, 0, none⟩), .pointer (some ⟨Bn, 0, none⟩)] (fun x : Pk => #[x.val]) (KeepsPN Bp Bn p n) (fun ys => ys = frags p n (count p n)) (fun _ => True) (count p n) w := fun l J Jx W hW hJ _ hY h0 =>
  pieces1_in F m h6 hro hm l Bp Bn p n hs hn hn' ho ho' J Jx W hJ hY (bblock hW hBp) (bblock hW hBn) h0

theorem pieces_in (F : Fence) (m : Nat) (h : F.fn 45) (hro : F.round = none) (f t pr ttl id : Int) (df mf : Bool) (off : Int) (s : ByteArray) (n : Int) (w : World) :
    CallsIn F m Tryz.prog 45 #[.agg #[.int .i64 f, .int .i64 t, .int .i64 pr, .int .i64 ttl, .int .i64 id, .bool df, .bool mf, .int .i64 off, .string s], .int .i64 n] w fun e w' => e = .returned (.func (.func 90) #[] #[.pointer (some ⟨w.heap.size, 0, none⟩), .pointer (some ⟨w.heap.size + 1, 0, none⟩)]) ∧ w' = (w.alloc (.cells #[.int .i64 f, .int .i64 t, .int .i64 pr, .int .i64 ttl, .int .i64 id, .bool df, .bool mf, .int .i64 off, .string s] 48)).alloc (.cells #[.int .i64 n] 3) := by
  refine callsIn_of_wp Tryz.func45 rfl h ?_ hro
  simp only [Tryz.ntmps45, List.size_toArray, List.length_cons, List.length_nil, Nat.reduceAdd, Nat.reduceSub, Array.replicate_succ, Array.replicate_zero, List.push_toArray, List.append_toArray, List.nil_append, List.cons_append]
  gi_wp2
  go_ret
  exact ⟨rfl, rfl⟩

/-- the cells of datagrams, one behind the other -/
def pkCells (l : List Pk) : List Value := l.flatMap Pk.cells
theorem pkCells_length (l : List Pk) : (pkCells l).length = l.length * 9 := by
  unfold pkCells
  induction l with
  | nil => rfl
  | cons a l ih => simp [ih, Pk.cells]; omega
theorem pkCells_snoc (l : List Pk) (x : Pk) : pkCells (l ++ [x]) = pkCells l ++ x.cells := by simp [pkCells]

theorem ownsRow_mono {w : World} {b b' : Nat} {e : TypeId} {size : Nat} {v : Value} {n : Nat} {xs : List Value} (h : w.ownsRow b e size v n xs) (hb : b' ≤ b) : w.ownsRow b' e size v n xs :=
  ⟨h.1, h.2.imp id (fun ⟨g, cap, cur, h1, h2, h3⟩ => ⟨g, cap, cur, h1, Nat.le_trans hb h2, h3⟩)⟩
/-- 'out = append(out, ..)' where the row lies from n₁ on -/
theorem appended2 {W w1 : World} {n₀ n₁ B : Nat} {t e : TypeId} {size : Nat} {v v' : Value} {k m : Nat} {xs ys : List Value} {tmp : Obj}
    (hv : Boxed W B t v) (hte : t ≠ e) (hrow : W.ownsRow n₁ e size v k xs) (hn₀ : n₀ ≤ W.heap.size) (hn : n₀ ≤ n₁) (hB : n₀ ≤ B)
    (hown' : w1.ownsRow n₁ e size v' m ys) (hgrow : (W.alloc tmp).grownBy w1 v.ownBlock) :
    Boxed w1 B t v ∧ Boxed (w1.setCell ⟨B, 0, none⟩ v') B t v' ∧ (w1.setCell ⟨B, 0, none⟩ v').ownsRow n₁ e size v' m ys ∧ KeepsOthers W (w1.setCell ⟨B, 0, none⟩ v') ∧ Below n₀ W (w1.setCell ⟨B, 0, none⟩ v')
      ∧ (∀ b o, b < n₁ → b ≠ B → KeepsB b o W (w1.setCell ⟨B, 0, none⟩ v')) ∧ W.heap.size ≤ (w1.setCell ⟨B, 0, none⟩ v').heap.size := by
  have hv1 : Boxed w1 B t v := (hv.alloc tmp).kept hgrow (hv.not_row hte hrow)
  have hob : ∀ j, v.ownBlock = some j → n₁ ≤ j := fun j ej => by
    rcases hrow.2 with ⟨rfl, _⟩ | ⟨g, cap, cur, rfl, hb, _, _⟩
    · simp [Value.ownBlock] at ej
    · obtain rfl : g = j := by simpa [Value.ownBlock] using ej
      exact hb
  refine ⟨hv1, hv1.set v', hown'.kept (grownBy_setCell' w1 B v') (.inr (hv1.not_row hte hown').symm), ?_, ?_, ?_, ?_⟩
  · refine ((KeepsOthers.alloc W tmp).trans (KeepsOthers.of_grownBy hgrow fun j o ej hj => ?_)).trans (KeepsOthers.setCell _ _ _)
    rcases (hrow.alloc tmp).2 with ⟨rfl, _⟩ | ⟨g, cap, cur, rfl, _, hgb, _⟩
    · simp [Value.ownBlock] at ej
    · obtain rfl : g = j := by simpa [Value.ownBlock] using ej
      rw [hgb] at hj; cases hj; rfl
  · exact (((Below.refl n₀ W).alloc hn₀ tmp).grown hgrow (by simp; omega) fun j ej => Nat.le_trans hn (hob j ej)).setCell (p := ⟨B, 0, none⟩) hB v'
  · intro b o hb hne ho
    have h1 := block_alloc ho tmp
    have h2 := (hgrow.block b (blk_lt h1) (fun e => by have := hob b e.symm; omega)).trans h1
    exact block_set_other h2 (fun e => hne e.symm)
  · have := hgrow.size
    simp [World.setCell] at this ⊢; omega

theorem infoPk : (Tryz.prog.info? 48).map (fun i => (i.zero, i.size, i.bytes)) = some (some (.agg #[.int .i64 0, .int .i64 0, .int .i64 0, .int .i64 0, .int .i64 0, .bool false, .bool false, .int .i64 0, .string ⟨#[]⟩]), 9, 72) := by kernel_rfl

set_option maxRecDepth 100000 in
set_option maxHeartbeats 4000000 in
theorem fragment_cut (f t pr ttl id : Int) (mf : Bool) (off : Int) (s : ByteArray) (size : Int) (n : Nat) (w : World) (hv : VLen f t pr ttl id false mf off s.size) (h68 : 68 ≤ size) (hbig : size < 20 + s.size) (hn : Hid (((n : Nat) : Int) = (size - 20) / 8 * 8)) :
    CallsIn Fence.wide 3 Tryz.prog 10 #[.agg #[.int .i64 f, .int .i64 t, .int .i64 pr, .int .i64 ttl, .int .i64 id, .bool false, .bool mf, .int .i64 off, .string s], .int .i64 size] w fun e w' =>
      ∃ v, e = .returned (.tuple #[v, .int .i64 0]) ∧ w'.ownsRow w.heap.size 48 9 v (count ⟨f, t, pr, ttl, id, false, mf, off, s⟩ n) (pkCells (frags ⟨f, t, pr, ttl, id, false, mf, off, s⟩ n (count ⟨f, t, pr, ttl, id, false, mf, off, s⟩ n))) ∧ Below w.heap.size w w' := by
  have hs : s.size ≤ 4000 := by unfold VLen at hv; omega
  have HV := Lib.hid fun w => valid_any f t pr ttl id false mf off s w (by omega)
  rw [show vlenB f t pr ttl id false mf off s.size = true from decide_eq_true hv] at HV
  have ho : 0 ≤ off ∧ off ≤ 4000 := by unfold VLen at hv; omega
  have hn1 : 1 ≤ n ∧ n ≤ 4000 := by have := hn.out; omega
  clear hv
  obtain ⟨i0, hi, hz0, hz1, hz2⟩ := info_parts infoPk
  refine callsIn_of_wp_marks Tryz.func10 rfl trivial ?_ rfl
  simp only [Tryz.ntmps10, List.size_toArray, List.length_cons, List.length_nil, Nat.reduceAdd, Nat.reduceSub, Array.replicate_succ, Array.replicate_zero, List.push_toArray, List.append_toArray, List.nil_append, List.cons_append]
  have hd1 : decide (size < 68) = false := by simp; omega
  have hd2 : decide (20 + (s.size : Int) ≤ size) = false := by simp; omega
  have Hp := Lib.hid (alloc_new w (.cells #[.int .i64 f, .int .i64 t, .int .i64 pr, .int .i64 ttl, .int .i64 id, .bool false, .bool mf, .int .i64 off, .string s] 48))
  have HB := below_alloc (o := .cells #[.int .i64 f, .int .i64 t, .int .i64 pr, .int .i64 ttl, .int .i64 id, .bool false, .bool mf, .int .i64 off, .string s] 48) (Below.refl w.heap.size w)
  gi_wp2_with fail
  refine ⟨trivial, ?_⟩
  refine (callsIn_wide.2 (HV.out _)).mono ?_
  rintro e w1 ⟨rfl, hb⟩
  have Hp' := Lib.hid (bblock hb Hp.out); clear Hp; have Hp := Hp'; clear Hp'
  have HB' := below_call HB hb; clear HB hb; have HB := HB'; clear HB'; have hz1' := HB.size
  obtain ⟨⟨q0, q1, q2, q3, q4, q5, q6, q7, q8⟩, z0, z1, z2, z3, z4, z5, z6, z7, z8⟩ := cells9 Hp.out
  have lt_p := blk_lt Hp.out
  gi_wp2_with fail
  rw [← hn.out]
  refine ⟨trivial, ?_⟩
  refine (pieces_in Fence.wide 2 trivial rfl f t pr ttl id false mf off s n _).mono ?_
  rintro e w' ⟨rfl, rfl⟩
  gi_wp2_with fail
  have bO : Boxed (((w1.alloc (.cells #[.slice none 0 0] 44)).alloc (.cells #[.int .i64 f, .int .i64 t, .int .i64 pr, .int .i64 ttl, .int .i64 id, .bool false, .bool mf, .int .i64 off, .string s] 48)).alloc (.cells #[.int .i64 (n : Int)] 3)) w1.heap.size 44 (.slice none 0 0) := ((Boxed.new w1 44 (.slice none 0 0)).alloc _).alloc _
  have hBp : (((w1.alloc (.cells #[.slice none 0 0] 44)).alloc (.cells #[.int .i64 f, .int .i64 t, .int .i64 pr, .int .i64 ttl, .int .i64 id, .bool false, .bool mf, .int .i64 off, .string s] 48)).alloc (.cells #[.int .i64 (n : Int)] 3)).heap[w1.heap.size + 1]? = some (.cells #[.int .i64 f, .int .i64 t, .int .i64 pr, .int .i64 ttl, .int .i64 id, .bool false, .bool mf, .int .i64 off, .string s] 48) := block_alloc (alloc_new' (w1.alloc (.cells #[.slice none 0 0] 44)) _ _ (by simp)) _
  have hBn : (((w1.alloc (.cells #[.slice none 0 0] 44)).alloc (.cells #[.int .i64 f, .int .i64 t, .int .i64 pr, .int .i64 ttl, .int .i64 id, .bool false, .bool mf, .int .i64 off, .string s] 48)).alloc (.cells #[.int .i64 (n : Int)] 3)).heap[w1.heap.size + 1 + 1]? = some (.cells #[.int .i64 (n : Int)] 3) := alloc_new' ((w1.alloc (.cells #[.slice none 0 0] 44)).alloc (.cells #[.int .i64 f, .int .i64 t, .int .i64 pr, .int .i64 ttl, .int .i64 id, .bool false, .bool mf, .int .i64 off, .string s] 48)) _ _ (by simp)
  have HB3 : Below w.heap.size w (((w1.alloc (.cells #[.slice none 0 0] 44)).alloc (.cells #[.int .i64 f, .int .i64 t, .int .i64 pr, .int .i64 ttl, .int .i64 id, .bool false, .bool mf, .int .i64 off, .string s] 48)).alloc (.cells #[.int .i64 (n : Int)] 3)) := below_alloc (below_alloc (below_alloc HB))
  have hsz : (((w1.alloc (.cells #[.slice none 0 0] 44)).alloc (.cells #[.int .i64 f, .int .i64 t, .int .i64 pr, .int .i64 ttl, .int .i64 id, .bool false, .bool mf, .int .i64 off, .string s] 48)).alloc (.cells #[.int .i64 (n : Int)] 3)).heap.size = w1.heap.size + 3 := by simp
  clear q0 q1 q2 q3 q4 q5 q6 q7 q8 z0 z1 z2 z3 z4 z5 z6 z7 z8
  generalize ((w1.alloc (.cells #[.slice none 0 0] 44)).alloc (.cells #[.int .i64 f, .int .i64 t, .int .i64 pr, .int .i64 ttl, .int .i64 id, .bool false, .bool mf, .int .i64 off, .string s] 48)).alloc (.cells #[.int .i64 (n : Int)] 3) = W0 at *
  have HSZ := Lib.hid hsz; clear hsz
  refine wpIn_rangeFunc_ownH rfl (by omega) (gf := 90) (lb := #[.pointer (some ⟨w1.heap.size + 1, 0, none⟩), .pointer (some ⟨w1.heap.size + 1 + 1, 0, none⟩)]) rfl trivial (enters_of Tryz.func90 (by kernel_rfl) rfl)
    (pieces_stops Fence.wide 2 trivial rfl (by omega) (w1.heap.size + 1) (w1.heap.size + 1 + 1) ⟨f, t, pr, ttl, id, false, mf, off, s⟩ n hs hn1.1 hn1.2 ho.1 ho.2 W0 hBp hBn) (fun h k => ⟨keepsB_t h.1 k.1, keepsB_t h.2.1 k.2.1, Nat.le_trans h.2.2 k.2.2⟩) (fun W l o o' _ h hc _ => ⟨keepsB_put rfl h hc, keepsB_put rfl h hc, by simp [World.putObj]⟩) (Below.refl _ _) (fun _ => rfl)
    (fun pre W => (∃ v, Boxed W w1.heap.size 44 v ∧ W.ownsRow (w1.heap.size + 3) 48 9 v pre.length (pkCells pre) ∧ True) ∧ Below w.heap.size w W ∧ W0.heap.size ≤ W.heap.size)
    (fun _ _ _ => False)
    (OwnFrom.and (Own.from (holdsRow_own (w1.heap.size + 3) w1.heap.size 44 48 9 (fun pre : List Pk => pre.length) pkCells (fun _ _ => True)) _) (OwnFrom.and (ownFrom_below (Nat.le_refl _) (by have := HSZ.out; omega)) (fun _ _ _ _ hs hg _ => Nat.le_trans hs hg.size)))
    (fun _ _ _ _ _ hs _ _ => hs)
    ⟨⟨_, bO, World.ownsRow_nil _ _ _ _, trivial⟩, HB3, Nat.le_refl _⟩
    (fun x a' W => ∃ Bx, w1.heap.size + 1 + 1 < Bx ∧ W.heap[Bx]? = some (.cells x.cells.toArray 48) ∧ a' = { tmps := #[.agg #[.int .i64 f, .int .i64 t, .int .i64 pr, .int .i64 ttl, .int .i64 id, .bool false, .bool mf, .int .i64 off, .string s], .int .i64 size, .pointer (some ⟨w.heap.size, 0, none⟩), undef, .slice none 0 0, .int .i64 0, .pointer (some ⟨w1.heap.size, 0, none⟩), .pointer (some ⟨Bx, 0, none⟩), .bool false, .agg #[.int .i64 f, .int .i64 t, .int .i64 pr, .int .i64 ttl, .int .i64 id, .bool false, .bool mf, .int .i64 off, .string s], .bool true, .bool false, .bool false, .int .i64 size, .bool false, .bool false, .pointer (some ⟨w.heap.size, 8, none⟩), .string s, .int .i64 s.size, .int .i64 (20 + s.size), .int .i64 size, .bool false, undef, undef, .bool false, .pointer (some ⟨w.heap.size, 5, none⟩), .bool false, .agg #[.int .i64 f, .int .i64 t, .int .i64 pr, .int .i64 ttl, .int .i64 id, .bool false, .bool mf, .int .i64 off, .string s], .int .i64 size, .int .i64 (size - 20), .int .i64 ((size - 20) / 8), .int .i64 (n : Int), .func (.func 90) #[] #[.pointer (some ⟨w1.heap.size + 1, 0, none⟩), .pointer (some ⟨w1.heap.size + 1 + 1, 0, none⟩)], x.val, undef, undef, undef, undef, undef], defers := [] })
    (fun x a' _ W W' row hs hg hr => by
      obtain ⟨Bx, h1, h2, h3⟩ := hs
      refine ⟨Bx, h1, (hg.block Bx (blk_lt h2) (fun e => ?_)).trans h2, h3⟩
      obtain ⟨_, o, ho, hc⟩ := hr _ e.symm
      rw [h2] at ho; cases ho; cases hc) ?assign ?body ?done ?stop
  case assign =>
    rintro l pre x W K ⟨⟨v, hv, hrow, -⟩, hBW, hsW⟩ hK
    dsimp only [Pk.val]
    gi_wp2
    exact hK _ _ ((KeepsOthers.alloc _ _).from _) ⟨fun h => block_alloc h _, fun h => block_alloc h _, by simp⟩ ⟨⟨v, hv.alloc _, hrow.alloc _, trivial⟩, below_alloc hBW, by simp; omega⟩ ⟨W.heap.size, by have := HSZ.out; omega, alloc_new _ _, rfl⟩
  case body =>
    rintro l pre x a' W hl hr ⟨⟨v, hv, hrow, -⟩, hBW, hsW⟩ ⟨Bx, hBx, hX, rfl⟩ hlt
    have hlt2 : pre.length < 4000 := by have := count_le ⟨f, t, pr, ttl, id, false, mf, off, s⟩ n hn1.1; simp only at this; omega
    clear hlt
    have hc := hv.cell
    obtain ⟨⟨q0, q1, q2, q3, q4, q5, q6, q7, q8⟩, z0, z1, z2, z3, z4, z5, z6, z7, z8⟩ := cells9 hX
    have HX := Lib.hid hX; clear hX
    have hszW : w1.heap.size + 3 ≤ W.heap.size := by have := HSZ.out; omega
    gi_wp2_with (gi_at_builtin; refine wpListIn_append_own _ rfl _ _ 44 rfl (w1.heap.size + 3) 48 i0 (.agg #[.int .i64 0, .int .i64 0, .int .i64 0, .int .i64 0, .int .i64 0, .bool false, .bool false, .int .i64 0, .string ⟨#[]⟩]) 9 72 Tryz.underlying44 hi hz0 hz1 hz2 rfl (by decide) _ _ _ rfl (hrow.alloc _) ⟨W.heap.size, 0, none⟩ 1 1 x.cells rfl rfl (World.news_of_block (alloc_new W (.cells x.cells.toArray 48))) (by simp [Pk.cells, Value.oneCell']) (by unfold maxLen; omega) (by omega) (by simp; omega) ?_; intro v' w2 hown' hgrow _; obtain ⟨g', cap', rfl⟩ := ownsRow_succ hown'; obtain ⟨hv1, hv2, hr2, hk2, hb2, hkb, hsz2⟩ := appended2 (n₀ := w.heap.size) hv (by decide) hrow (by omega) (by omega) (by omega) hown' hgrow; have hc1 := hv1.cell; have hf1 := hv1.frozen)
    refine ⟨hk2.from _, ⟨hkb _ _ (by omega) (by omega), hkb _ _ (by omega) (by omega), hsz2⟩, ⟨_, hv2, ?_, trivial⟩, hBW.trans hb2, Nat.le_trans hsW hsz2⟩
    rw [pkCells_snoc, List.length_append]; exact hr2
  case done =>
    rintro D ys W hD rfl ⟨⟨v, hv, hrow, -⟩, hBW, hsW⟩ hK
    have hc := hv.cell
    gi_wp2
    refine ⟨by simp, .inl ⟨_, _, rfl, run_takeDeferred hK, ?_⟩⟩
    refine ⟨_, results_tmp2 rfl _ _ _, v, rfl, ?_, hBW.trans (belowK_b (w := w) (Nat.le_refl _) W D _ _ (by have := HSZ.out; omega) hK rfl rfl)⟩
    have := ownsRow_putObj hrow (.deferred none) hK rfl
    rw [frags_length] at this
    exact ownsRow_mono this (by omega)
  case stop =>
    rintro D c pre W _ _ h _
    exact h.elim
end Go.Proofs.YtmgjcjacoegocaaGreatDoor.Ip

namespace Go.Proofs.YtmgjcjacoegocaaGreatDoor.Ip
set_option maxRecDepth 100000
open Go.RowKit Go.Shelf Go.Proofs.YtmgjcjacoegocaaGreatDoor.Wire

set_option maxRecDepth 100000 in
set_option maxHeartbeats 1000000 in
theorem fragment_inv (f t pr ttl id : Int) (df mf : Bool) (off : Int) (s : ByteArray) (size : Int) (w : World) (hs : s.size ≤ 1000000) (hv : ¬ VLen f t pr ttl id df mf off s.size) :
    Calls Tryz.prog 10 #[.agg #[.int .i64 f, .int .i64 t, .int .i64 pr, .int .i64 ttl, .int .i64 id, .bool df, .bool mf, .int .i64 off, .string s], .int .i64 size] w fun e w' => ∃ v, e = .returned (.tuple #[v, .int .i64 60]) ∧ w'.ownsRow w.heap.size 48 9 v 0 ([]) ∧ Below w.heap.size w w' := by
  have HV := Lib.hid fun w => valid_any f t pr ttl id df mf off s w (by omega)
  rw [show vlenB f t pr ttl id df mf off s.size = false from decide_eq_false hv] at HV
  clear hv
  go_enter Tryz.func10, Tryz.ntmps10
  have Hp := Lib.hid (alloc_new w (.cells #[.int .i64 f, .int .i64 t, .int .i64 pr, .int .i64 ttl, .int .i64 id, .bool df, .bool mf, .int .i64 off, .string s] 48))
  have HB := below_alloc (o := .cells #[.int .i64 f, .int .i64 t, .int .i64 pr, .int .i64 ttl, .int .i64 id, .bool df, .bool mf, .int .i64 off, .string s] 48) (Below.refl w.heap.size w)
  go_wp2_with fail
  refine (HV.out _).mono ?_
  rintro e w1 ⟨rfl, hb⟩
  have Hp' := Lib.hid (bblock hb Hp.out); clear Hp; have Hp := Hp'; clear Hp'
  have HB' := below_call HB hb; clear HB hb; have HB := HB'; clear HB'; have hz1' := HB.size
  obtain ⟨⟨q0, q1, q2, q3, q4, q5, q6, q7, q8⟩, z0, z1, z2, z3, z4, z5, z6, z7, z8⟩ := cells9 Hp.out
  have lt_p := blk_lt Hp.out
  go_wp2_with fail
  go_ret2
  exact ⟨_, rfl, World.ownsRow_nil _ _ _ _, HB⟩

set_option maxRecDepth 100000 in
set_option maxHeartbeats 1000000 in
theorem fragment_arg (f t pr ttl id : Int) (df mf : Bool) (off : Int) (s : ByteArray) (size : Int) (w : World) (hs : s.size ≤ 1000000) (hv : VLen f t pr ttl id df mf off s.size) (h68 : size < 68) :
    Calls Tryz.prog 10 #[.agg #[.int .i64 f, .int .i64 t, .int .i64 pr, .int .i64 ttl, .int .i64 id, .bool df, .bool mf, .int .i64 off, .string s], .int .i64 size] w fun e w' => ∃ v, e = .returned (.tuple #[v, .int .i64 2]) ∧ w'.ownsRow w.heap.size 48 9 v 0 ([]) ∧ Below w.heap.size w w' := by
  have HV := Lib.hid fun w => valid_any f t pr ttl id df mf off s w (by omega)
  rw [show vlenB f t pr ttl id df mf off s.size = true from decide_eq_true hv] at HV
  clear hv
  have hd1 : decide (size < 68) = true := by simp; omega
  go_enter Tryz.func10, Tryz.ntmps10
  have Hp := Lib.hid (alloc_new w (.cells #[.int .i64 f, .int .i64 t, .int .i64 pr, .int .i64 ttl, .int .i64 id, .bool df, .bool mf, .int .i64 off, .string s] 48))
  have HB := below_alloc (o := .cells #[.int .i64 f, .int .i64 t, .int .i64 pr, .int .i64 ttl, .int .i64 id, .bool df, .bool mf, .int .i64 off, .string s] 48) (Below.refl w.heap.size w)
  go_wp2_with fail
  refine (HV.out _).mono ?_
  rintro e w1 ⟨rfl, hb⟩
  have Hp' := Lib.hid (bblock hb Hp.out); clear Hp; have Hp := Hp'; clear Hp'
  have HB' := below_call HB hb; clear HB hb; have HB := HB'; clear HB'; have hz1' := HB.size
  obtain ⟨⟨q0, q1, q2, q3, q4, q5, q6, q7, q8⟩, z0, z1, z2, z3, z4, z5, z6, z7, z8⟩ := cells9 Hp.out
  have lt_p := blk_lt Hp.out
  go_wp2_with fail
  go_ret2
  exact ⟨_, rfl, World.ownsRow_nil _ _ _ _, HB⟩

set_option maxRecDepth 100000 in
set_option maxHeartbeats 1000000 in
theorem fragment_one (f t pr ttl id : Int) (df mf : Bool) (off : Int) (s : ByteArray) (size : Int) (w : World) (hs : s.size ≤ 1000000) (hv : VLen f t pr ttl id df mf off s.size) (h68 : 68 ≤ size) (hbig : 20 + (s.size : Int) ≤ size) :
    Calls Tryz.prog 10 #[.agg #[.int .i64 f, .int .i64 t, .int .i64 pr, .int .i64 ttl, .int .i64 id, .bool df, .bool mf, .int .i64 off, .string s], .int .i64 size] w fun e w' => ∃ v, e = .returned (.tuple #[v, .int .i64 0]) ∧ w'.ownsRow w.heap.size 48 9 v 1 (Pk.cells ⟨f, t, pr, ttl, id, df, mf, off, s⟩) ∧ Below w.heap.size w w' := by
  have HV := Lib.hid fun w => valid_any f t pr ttl id df mf off s w (by omega)
  rw [show vlenB f t pr ttl id df mf off s.size = true from decide_eq_true hv] at HV
  clear hv
  have hd1 : decide (size < 68) = false := by simp; omega
  have hd2 : decide (20 + (s.size : Int) ≤ size) = true := by simp; omega
  go_enter Tryz.func10, Tryz.ntmps10
  have Hp := Lib.hid (alloc_new w (.cells #[.int .i64 f, .int .i64 t, .int .i64 pr, .int .i64 ttl, .int .i64 id, .bool df, .bool mf, .int .i64 off, .string s] 48))
  have HB := below_alloc (o := .cells #[.int .i64 f, .int .i64 t, .int .i64 pr, .int .i64 ttl, .int .i64 id, .bool df, .bool mf, .int .i64 off, .string s] 48) (Below.refl w.heap.size w)
  go_wp2_with fail
  refine (HV.out _).mono ?_
  rintro e w1 ⟨rfl, hb⟩
  have Hp' := Lib.hid (bblock hb Hp.out); clear Hp; have Hp := Hp'; clear Hp'
  have HB' := below_call HB hb; clear HB hb; have HB := HB'; clear HB'; have hz1' := HB.size
  obtain ⟨⟨q0, q1, q2, q3, q4, q5, q6, q7, q8⟩, z0, z1, z2, z3, z4, z5, z6, z7, z8⟩ := cells9 Hp.out
  have lt_p := blk_lt Hp.out
  go_wp2_with fail
  go_ret2
  exact ⟨_, rfl, World.ownsRow_lit w1 #[.int .i64 f, .int .i64 t, .int .i64 pr, .int .i64 ttl, .int .i64 id, .bool df, .bool mf, .int .i64 off, .string s] 1 (by omega) (by unfold maxLen; omega) rfl, below_alloc HB⟩

set_option maxRecDepth 100000 in
set_option maxHeartbeats 1000000 in
theorem fragment_df (f t pr ttl id : Int) (df mf : Bool) (off : Int) (s : ByteArray) (size : Int) (w : World) (hs : s.size ≤ 1000000) (hv : VLen f t pr ttl id df mf off s.size) (h68 : 68 ≤ size) (hbig : size < 20 + (s.size : Int)) (hdf : Hid (df = true)) :
    Calls Tryz.prog 10 #[.agg #[.int .i64 f, .int .i64 t, .int .i64 pr, .int .i64 ttl, .int .i64 id, .bool df, .bool mf, .int .i64 off, .string s], .int .i64 size] w fun e w' => ∃ v, e = .returned (.tuple #[v, .int .i64 61]) ∧ w'.ownsRow w.heap.size 48 9 v 0 ([]) ∧ Below w.heap.size w w' := by
  have HV := Lib.hid fun w => valid_any f t pr ttl id df mf off s w (by omega)
  rw [show vlenB f t pr ttl id df mf off s.size = true from decide_eq_true hv] at HV
  clear hv
  have hdf2 := hdf.out; subst hdf2; clear hdf
  have hd1 : decide (size < 68) = false := by simp; omega
  have hd2 : decide (20 + (s.size : Int) ≤ size) = false := by simp; omega
  go_enter Tryz.func10, Tryz.ntmps10
  have Hp := Lib.hid (alloc_new w (.cells #[.int .i64 f, .int .i64 t, .int .i64 pr, .int .i64 ttl, .int .i64 id, .bool true, .bool mf, .int .i64 off, .string s] 48))
  have HB := below_alloc (o := .cells #[.int .i64 f, .int .i64 t, .int .i64 pr, .int .i64 ttl, .int .i64 id, .bool true, .bool mf, .int .i64 off, .string s] 48) (Below.refl w.heap.size w)
  go_wp2_with fail
  refine (HV.out _).mono ?_
  rintro e w1 ⟨rfl, hb⟩
  have Hp' := Lib.hid (bblock hb Hp.out); clear Hp; have Hp := Hp'; clear Hp'
  have HB' := below_call HB hb; clear HB hb; have HB := HB'; clear HB'; have hz1' := HB.size
  obtain ⟨⟨q0, q1, q2, q3, q4, q5, q6, q7, q8⟩, z0, z1, z2, z3, z4, z5, z6, z7, z8⟩ := cells9 Hp.out
  have lt_p := blk_lt Hp.out
  go_wp2_with fail
  go_ret2
  exact ⟨_, rfl, World.ownsRow_nil _ _ _ _, HB⟩

/-- the number of bytes of a fragment -/
def fragN (size : Int) : Nat := ((size - 20) / 8 * 8).toNat
/-- what Fragment returns -/
def fragList (p : Pk) (size : Int) : List Pk :=
  if ¬ VLen p.f p.t p.pr p.ttl p.id p.df p.mf p.off p.s.size then [] else if size < 68 then [] else if 20 + (p.s.size : Int) ≤ size then [p] else if p.df = true then [] else frags p (fragN size) (count p (fragN size))
def fragErr (p : Pk) (size : Int) : Int :=
  if ¬ VLen p.f p.t p.pr p.ttl p.id p.df p.mf p.off p.s.size then 60 else if size < 68 then 2 else if 20 + (p.s.size : Int) ≤ size then 0 else if p.df = true then 61 else 0
theorem Fragment_any (p : Pk) (size : Int) (w : World) (hs : p.s.size ≤ 1000000) :
    Calls Tryz.prog 10 #[p.val, .int .i64 size] w fun e w' => ∃ v, e = .returned (.tuple #[v, .int .i64 (fragErr p size)]) ∧ w'.ownsRow w.heap.size 48 9 v (fragList p size).length (pkCells (fragList p size)) ∧ Below w.heap.size w w' := by
  obtain ⟨f, t, pr, ttl, id, df, mf, off, s⟩ := p
  unfold fragErr fragList Pk.val
  dsimp only at *
  by_cases hv : VLen f t pr ttl id df mf off s.size
  · simp only [hv, not_true_eq_false, if_false]
    by_cases h68 : size < 68
    · simp only [h68, if_true]
      exact fragment_arg f t pr ttl id df mf off s size w hs hv h68
    · simp only [h68, if_false]
      by_cases hbig : 20 + (s.size : Int) ≤ size
      · simp only [hbig, if_true]
        have := fragment_one f t pr ttl id df mf off s size w hs hv (by omega) hbig
        simpa [pkCells] using this
      · simp only [hbig, if_false]
        cases df with
        | true =>
          simp only [if_true]
          exact fragment_df f t pr ttl id true mf off s size w hs hv (by omega) (by omega) (Lib.hid rfl)
        | false =>
          simp only [Bool.false_eq_true, if_false]
          rw [frags_length]
          exact (callsIn_wide (n := 3)).1 (fragment_cut f t pr ttl id mf off s size (fragN size) w hv (by omega) (by omega) (Lib.hid (by unfold fragN; omega)))
  · simp only [hv, not_false_eq_true, if_true]
    exact fragment_inv f t pr ttl id df mf off s size w hs hv
end Go.Proofs.YtmgjcjacoegocaaGreatDoor.Ip

namespace Go.Proofs.YtmgjcjacoegocaaGreatDoor.Ip
set_option maxRecDepth 100000
open Go.RowKit Go.Proofs.YtmgjcjacoegocaaGreatDoor.Wire

/-- the payloads of datagrams, one behind the other -/
def catP (l : List Pk) : List UInt8 := l.flatMap (·.s.data.toList)
theorem catP_append (l m : List Pk) : catP (l ++ m) = catP l ++ catP m := by simp [catP]
theorem catP_one (x : Pk) : catP [x] = x.s.data.toList := by simp [catP]
theorem catP_snoc (l : List Pk) (x : Pk) : catP (l ++ [x]) = catP l ++ x.s.data.toList := by rw [catP_append, catP_one]
theorem piece_bytes (p : Pk) (n k : Nat) : (pieceAt p n k).s.data.toList = (p.s.data.toList.take (n * k + n)).drop (n * k) := by
  show (p.s.extract (n * k) (min (n * k + n) p.s.size)).data.toList = _
  rw [ByteArray.data_extract, Array.toList_extract]
  simp only [List.extract_eq_drop_take']
  have hl : p.s.data.toList.length = p.s.size := rfl
  by_cases h : n * k + n ≤ p.s.size
  · rw [Nat.min_eq_left h]
  · rw [Nat.min_eq_right (by omega), List.take_of_length_le (by omega), List.take_of_length_le (by omega)]
theorem cat_frags (p : Pk) (n k : Nat) : catP (frags p n k) = p.s.data.toList.take (n * k) := by
  induction k with
  | zero => simp [frags, catP]
  | succ k ih =>
    rw [frags_succ, catP_snoc, ih, piece_bytes, Nat.mul_succ]
    have : p.s.data.toList.take (n * k) = (p.s.data.toList.take (n * k + n)).take (n * k) := by rw [List.take_take, Nat.min_eq_left (by omega)]
    rw [this, List.take_append_drop]
theorem frags_get (p : Pk) (n m i : Nat) (h : i < m) : (frags p n m)[i]? = some (pieceAt p n i) := by simp [frags, h]
theorem frags_take (p : Pk) (n m i : Nat) (h : i ≤ m) : (frags p n m).take i = frags p n i := by
  simp [frags, ← List.map_take, List.take_range, Nat.min_eq_left h]
theorem piece_size (p : Pk) (n k : Nat) : (pieceAt p n k).s.size = min (n * k + n) p.s.size - n * k := by
  show (p.s.extract (n * k) (min (n * k + n) p.s.size)).size = _
  rw [ByteArray.size_extract]; omega
theorem piece_ok (p : Pk) (hp : p.ok) (hdf : p.df = false) (n k : Nat) (h8 : n % 8 = 0) (hn : 0 < n) (hk : n * k < p.s.size) : (pieceAt p n k).ok := by
  have hs := piece_size p n k
  have hm8 : (n * k) % 8 = 0 := by rw [Nat.mul_mod, h8]; simp
  have e1 : (pieceAt p n k).off = p.off + ((n * k : Nat) : Int) := rfl
  have e2 : (pieceAt p n k).mf = (p.mf || decide (n * k + n < p.s.size)) := rfl
  unfold Pk.ok at *
  rw [hs, e1, e2]
  show VLen p.f p.t p.pr p.ttl p.id p.df _ _ _
  obtain ⟨f, t, pr, ttl, id, df, mf, off, s⟩ := p
  dsimp only at *
  subst hdf
  generalize n * k = a at *
  obtain ⟨h1, h2, ⟨h3, h4, h5, h6⟩, h7, h8', h9⟩ := hp
  refine ⟨h1, h2, ⟨by omega, by omega, by omega, by omega⟩, ?_, fun _ => by omega, fun h => by cases h⟩
  intro hmf
  by_cases c : a + n < s.size
  · rw [Nat.min_eq_left (by omega)]; omega
  · rw [Nat.min_eq_right (by omega)]
    rw [decide_eq_false c, Bool.or_false] at hmf
    have := h7 hmf
    omega
theorem fragN_bd (n : Int) (h : 68 ≤ n) : 48 ≤ fragN n ∧ ((fragN n : Nat) : Int) ≤ n - 20 ∧ fragN n % 8 = 0 := by unfold fragN; omega
/-- all that holds of the fragments -/
structure FragSpec (p : Pk) (n : Int) (l : List Pk) : Prop where
  pos : 0 < l.length
  le : l.length ≤ 4001
  cat : catP l = p.s.data.toList
  one : l.length = 1 ↔ (p.s.size : Int) + 20 ≤ n
  at_ : ∀ (i : Nat) (q : Pk), l[i]? = some q → q.ok ∧ 20 + (q.s.size : Int) ≤ n ∧ q.off = p.off + (((catP (l.take i)).length : Nat) : Int) ∧ q.mf = (p.mf || decide (i + 1 < l.length)) ∧ { q with off := p.off, mf := p.mf, s := p.s : Pk } = p
theorem frag_err (p : Pk) (hp : p.ok) (hdf : p.df = false) (n : Int) (h : 68 ≤ n) : fragErr p n = 0 := by
  unfold Pk.ok at hp
  unfold fragErr
  rw [if_neg (by simpa using hp), if_neg (by omega), hdf]
  simp
theorem frag_spec (p : Pk) (hp : p.ok) (hdf : p.df = false) (n : Int) (h : 68 ≤ n) : FragSpec p n (fragList p n) := by
  have hp0 := hp
  unfold Pk.ok at hp0
  have hs4 : p.s.size ≤ 4000 := by unfold VLen at hp0; omega
  by_cases hbig : 20 + (p.s.size : Int) ≤ n
  · have e : fragList p n = [p] := by
      unfold fragList
      rw [if_neg (by simpa using hp0), if_neg (by omega), if_pos hbig]
    rw [e]
    refine ⟨by simp, by simp, catP_one p, ⟨fun _ => by omega, fun _ => rfl⟩, fun i q hq => ?_⟩
    match i, hq with
    | 0, hq =>
      simp only [List.getElem?_cons_zero, Option.some.injEq] at hq
      subst hq
      exact ⟨hp, hbig, by simp [catP], by simp, rfl⟩
  · have e : fragList p n = frags p (fragN n) (count p (fragN n)) := by
      unfold fragList
      rw [if_neg (by simpa using hp0), if_neg (by omega), if_neg hbig, if_neg (by simp [hdf])]
    rw [e]
    obtain ⟨hN1, hN2, hN3⟩ := fragN_bd n h
    generalize hN : fragN n = N at *
    have hc1 : 1 < count p N := (count_lt p N 1 (by omega)).2 (by omega)
    have hcl := count_le p N (by omega)
    have hcat : catP (frags p N (count p N)) = p.s.data.toList := by
      rw [cat_frags]
      apply List.take_of_length_le
      have hl : p.s.data.toList.length = p.s.size := rfl
      rcases Nat.lt_or_ge (N * count p N) p.s.size with c | c
      · exact absurd ((count_lt p N _ (by omega)).2 c) (Nat.lt_irrefl _)
      · omega
    refine ⟨by rw [frags_length]; omega, by rw [frags_length]; omega, hcat, ⟨fun hq => by rw [frags_length] at hq; omega, fun hq => by omega⟩, fun i q hq => ?_⟩
    have hi : i < count p N := by
      rcases Nat.lt_or_ge i (count p N) with c | c
      · exact c
      · rw [List.getElem?_eq_none (by rw [frags_length]; omega)] at hq; cases hq
    rw [frags_get p N _ i hi, Option.some.injEq] at hq
    subst hq
    have hlt := (count_lt p N i (by omega)).1 hi
    refine ⟨piece_ok p hp hdf N i hN3 (by omega) hlt, ?_, ?_, ?_, rfl⟩
    · have := piece_size p N i
      omega
    · rw [frags_take p N _ i (by omega), cat_frags, List.length_take, Nat.min_eq_left (by have hl : p.s.data.toList.length = p.s.size := rfl; omega)]
      rfl
    · rw [frags_length]
      show (p.mf || decide (N * i + N < p.s.size)) = _
      congr 1
      have := count_lt p N (i + 1) (by omega)
      rw [Nat.mul_succ] at this
      rw [decide_eq_decide]
      exact this.symm
end Go.Proofs.YtmgjcjacoegocaaGreatDoor.Ip

namespace Go.Proofs.YtmgjcjacoegocaaGreatDoor.Ip
set_option maxRecDepth 100000
open Go.RowKit Go.Proofs.YtmgjcjacoegocaaGreatDoor.Wire

theorem pkCells_get : ∀ (l : List Pk) (i j : Nat) (p : Pk), l[i]? = some p → j < 9 → (pkCells l)[i * 9 + j]? = p.cells[j]?
  | [], i, j, p, h, _ => by simp at h
  | x :: r, 0, j, p, h, hj => by
    simp only [List.getElem?_cons_zero, Option.some.injEq] at h
    subst h
    have : pkCells (x :: r) = x.cells ++ pkCells r := by simp [pkCells]
    rw [this, Nat.zero_mul, Nat.zero_add, List.getElem?_append_left (by simp [Pk.cells]; omega)]
  | x :: r, i + 1, j, p, h, hj => by
    have : pkCells (x :: r) = x.cells ++ pkCells r := by simp [pkCells]
    have hl : x.cells.length = 9 := rfl
    rw [this, List.getElem?_append_right (by rw [hl]; omega), hl, show (i + 1) * 9 + j - 9 = i * 9 + j from by omega]
    exact pkCells_get r i j p (by simpa using h) hj
/-- block g holds the datagrams l, one behind the other -/
def PkRow (W : World) (g : Nat) (l : List Pk) : Prop := ∃ cur, W.heap[g]? = some (.cells cur 48 (0, 0)) ∧ cur.toList.take (l.length * 9) = pkCells l
theorem PkRow.lt {W : World} {g : Nat} {l : List Pk} (h : PkRow W g l) : g < W.heap.size := by obtain ⟨cur, h, -⟩ := h; exact blk_lt h
theorem PkRow.below {W w1 : World} {g : Nat} {l : List Pk} (hb : Below W.heap.size W w1) (h : PkRow W g l) : PkRow w1 g l := by obtain ⟨cur, h, k⟩ := h; exact ⟨cur, bblock hb h, k⟩
theorem PkRow.alloc {W : World} {g : Nat} {l : List Pk} (h : PkRow W g l) (o : Obj) : PkRow (W.alloc o) g l := by obtain ⟨cur, h, k⟩ := h; exact ⟨cur, block_alloc h o, k⟩
theorem PkRow.drewN {W : World} {g : Nat} {l : List Pk} (h : PkRow W g l) (n : Nat) : PkRow (W.drewN n) g l := h
theorem PkRow.drew {W : World} {g : Nat} {l : List Pk} (h : PkRow W g l) : PkRow W.drew g l := h
theorem PkRow.cell {W : World} {g : Nat} {l : List Pk} (h : PkRow W g l) (i : Nat) (p : Pk) (hp : l[i]? = some p) (j : Nat) (hj : j < 9) : W.cell? ⟨g, i * 9 + j, none⟩ = p.cells[j]? := by
  obtain ⟨cur, h, k⟩ := h
  have hi : i < l.length := by
    rcases Nat.lt_or_ge i l.length with c | c
    · exact c
    · rw [List.getElem?_eq_none c] at hp; cases hp
  rw [← pkCells_get l i j p hp hj, ← k, List.getElem?_take_of_lt (by omega)]
  simp [World.cell?, h]
theorem PkRow.cells {W : World} {g : Nat} {l : List Pk} (h : PkRow W g l) (i : Nat) (p : Pk) (hp : l[i]? = some p) :
    W.cell? ⟨g, i * 9, none⟩ = some (.int .i64 p.f) ∧ W.cell? ⟨g, i * 9 + 1, none⟩ = some (.int .i64 p.t) ∧ W.cell? ⟨g, i * 9 + 2, none⟩ = some (.int .i64 p.pr) ∧ W.cell? ⟨g, i * 9 + 3, none⟩ = some (.int .i64 p.ttl) ∧ W.cell? ⟨g, i * 9 + 4, none⟩ = some (.int .i64 p.id) ∧ W.cell? ⟨g, i * 9 + 5, none⟩ = some (.bool p.df) ∧ W.cell? ⟨g, i * 9 + 6, none⟩ = some (.bool p.mf) ∧ W.cell? ⟨g, i * 9 + 7, none⟩ = some (.int .i64 p.off) ∧ W.cell? ⟨g, i * 9 + 8, none⟩ = some (.string p.s) :=
  ⟨h.cell i p hp 0 (by omega), h.cell i p hp 1 (by omega), h.cell i p hp 2 (by omega), h.cell i p hp 3 (by omega), h.cell i p hp 4 (by omega), h.cell i p hp 5 (by omega), h.cell i p hp 6 (by omega), h.cell i p hp 7 (by omega), h.cell i p hp 8 (by omega)⟩
theorem pkRow_of {W : World} {base : Nat} {v : Value} {l : List Pk} (h : W.ownsRow base 48 9 v l.length (pkCells l)) (hl : 0 < l.length) : ∃ g cap, v = .slice (some ⟨g, 0, none⟩) l.length cap ∧ base ≤ g ∧ PkRow W g l := by
  rcases h.2 with ⟨-, h0⟩ | ⟨g, cap, cur, hv, hb, hg, -, -, -, hk⟩
  · omega
  · exact ⟨g, cap, hv, hb, cur, hg, hk⟩
/-- the datagram p without DF -/
def noDF (p : Pk) : Pk := ⟨p.f, p.t, p.pr, p.ttl, p.id, false, p.mf, p.off, p.s⟩
theorem noDF_ok (p : Pk) (h : p.ok) : (noDF p).ok := by
  unfold Pk.ok VLen at *
  show _ ∧ _ ∧ _ ∧ _ ∧ _ ∧ (false = true → _)
  exact ⟨h.1, h.2.1, h.2.2.1, h.2.2.2.1, h.2.2.2.2.1, fun e => by cases e⟩
/-- Fragment of a valid datagram without DF -/
theorem fragFacts (p : Pk) (hp : p.ok) (hdf : p.df = false) (n : Int) (h : 68 ≤ n) : ∃ l : List Pk, FragSpec p n l ∧
    Hid (∀ w, Calls Tryz.prog 10 #[p.val, .int .i64 n] w fun e w' => (∃ g cap : Nat, e = .returned (.tuple #[.slice (some ⟨g, 0, none⟩) l.length cap, .int .i64 0]) ∧ w.heap.size ≤ g ∧ PkRow w' g l) ∧ Below w.heap.size w w') := by
  have hs : p.s.size ≤ 4000 := by have := hp; unfold Pk.ok VLen at this; omega
  refine ⟨fragList p n, frag_spec p hp hdf n h, Lib.hid fun w => ?_⟩
  refine (Fragment_any p n w (by omega)).mono ?_
  rintro e w' ⟨v, rfl, hrow, hb⟩
  obtain ⟨g, cap, rfl, hg, hr⟩ := pkRow_of hrow (frag_spec p hp hdf n h).pos
  exact ⟨⟨g, cap, by rw [frag_err p hp hdf n h], hg, hr⟩, hb⟩
/-- a fragment of p, by p's fields -/
theorem frag_at {p : Pk} {n : Int} {l : List Pk} (h : FragSpec (noDF p) n l) (i : Nat) (hi : i < l.length) : ∃ (m : Bool) (s : ByteArray),
    l[i]? = some ⟨p.f, p.t, p.pr, p.ttl, p.id, false, m, p.off + (((catP (l.take i)).length : Nat) : Int), s⟩ ∧ Pk.ok ⟨p.f, p.t, p.pr, p.ttl, p.id, false, m, p.off + (((catP (l.take i)).length : Nat) : Int), s⟩ ∧ 20 + (s.size : Int) ≤ n ∧ Hid (m = (p.mf || decide (i + 1 < l.length))) ∧ Hid (catP (l.take (i + 1)) = catP (l.take i) ++ s.data.toList) := by
  have hq : l[i]? = some l[i] := List.getElem?_eq_getElem hi
  obtain ⟨h1, h2, h3, h4, h5⟩ := h.at_ i _ hq
  have hcat : catP (l.take (i + 1)) = catP (l.take i) ++ l[i].s.data.toList := by rw [List.take_succ_eq_append_getElem hi, catP_snoc]
  generalize l[i] = q at *
  obtain ⟨f, t, pr, ttl, id, df, mf, off, s⟩ := q
  simp only [noDF, Pk.mk.injEq] at h5
  obtain ⟨rfl, rfl, rfl, rfl, rfl, rfl, -, -, -⟩ := h5
  dsimp only [noDF] at h2 h3 h4 hcat
  subst h3
  exact ⟨mf, s, hq, h1, h2, Lib.hid h4, Lib.hid hcat⟩
theorem Encode_pk (p : Pk) (w : World) (h : p.ok) : Calls Tryz.prog 13 #[p.val] w fun e w' => e = .returned (.tuple #[.string ⟨(encP p).toArray⟩, .int .i64 0]) ∧ Below w.heap.size w w' :=
  Encode_ok p.f p.t p.pr p.ttl p.id p.df p.mf p.off p.s w h
theorem bsz (l : List UInt8) : (⟨l.toArray⟩ : ByteArray).size = l.length := rfl
theorem Decode_pk (p : Pk) (w : World) (hp : p.ok) : Calls Tryz.prog 16 #[.string ⟨(encP p).toArray⟩] w fun e w' => e = .returned (.tuple #[p.val, .int .i64 0]) ∧ Below w.heap.size w w' := by
  have hl := encP_length p
  have hs : p.s.size ≤ 4000 := by have := hp; unfold Pk.ok VLen at this; omega
  have := Decode_ok ⟨(encP p).toArray⟩ w (by rw [bsz]; omega) (enc_dcOk p hp)
  rwa [enc_pkOf p hp] at this
/-- all that a join uses of the encoding of a fragment, its fields laid open -/
theorem pkRt (f t pr ttl id : Int) (df mf : Bool) (off : Int) (s : ByteArray) (hp : Pk.ok ⟨f, t, pr, ttl, id, df, mf, off, s⟩) : ∃ R : List UInt8, R.length = 20 + s.size ∧ s.size ≤ 4000 ∧ R = encP ⟨f, t, pr, ttl, id, df, mf, off, s⟩ ∧
    Hid (∀ w, Calls Tryz.prog 13 #[.agg #[.int .i64 f, .int .i64 t, .int .i64 pr, .int .i64 ttl, .int .i64 id, .bool df, .bool mf, .int .i64 off, .string s]] w fun e w' => e = .returned (.tuple #[.string ⟨R.toArray⟩, .int .i64 0]) ∧ Below w.heap.size w w') ∧
    Hid (∀ w, Calls Tryz.prog 16 #[.string ⟨R.toArray⟩] w fun e w' => e = .returned (.tuple #[.agg #[.int .i64 f, .int .i64 t, .int .i64 pr, .int .i64 ttl, .int .i64 id, .bool df, .bool mf, .int .i64 off, .string s], .int .i64 0]) ∧ Below w.heap.size w w') :=
  ⟨_, encP_length _, by have := hp; unfold Pk.ok VLen at this; dsimp only at this; omega, rfl, Lib.hid fun w => Encode_pk _ w hp, Lib.hid fun w => Decode_pk _ w hp⟩
/-- a UDP datagram: encoded and decoded -/
theorem udpRt (a b f t : Int) (l : List UInt8) (ha : 1 ≤ a ∧ a ≤ 4294967295) (hb : 1 ≤ b ∧ b ≤ 4294967295) (hf : 1 ≤ f ∧ f ≤ 65535) (ht : 1 ≤ t ∧ t ≤ 65535) (hl : l.length ≤ 2000) : ∃ U : List UInt8, U.length = 8 + l.length ∧
    Hid (∀ w, Calls Tryz.prog 9 #[.int .i64 a, .int .i64 b, .agg #[.int .i64 f, .int .i64 t, .string ⟨l.toArray⟩]] w fun e w' => e = .returned (.tuple #[.string ⟨U.toArray⟩, .int .i64 0]) ∧ Below w.heap.size w w') ∧
    Hid (∀ w, Calls Tryz.prog 17 #[.int .i64 a, .int .i64 b, .string ⟨U.toArray⟩] w fun e w' => e = .returned (.tuple #[.agg #[.int .i64 f, .int .i64 t, .string ⟨l.toArray⟩], .int .i64 0]) ∧ Below w.heap.size w w') := by
  have h : Udp.encOk a b f t l.length = true := by simp [Udp.encOk, Udp.validB, Udp.portB, Udp.addrB]; omega
  refine ⟨Udp.enc a b f t l, Udp.enc_length a b f t l, Lib.hid fun w => ?_, Lib.hid fun w => ?_⟩
  · have := Udp.Encode_ok a b f t ⟨l.toArray⟩ w h
    simpa using this
  · have hd := Udp.round a b f t l h
    have := Udp.Decode_good a b ⟨(Udp.enc a b f t l).toArray⟩ w (by rw [bsz, Udp.enc_length]; omega) hd
    rw [Udp.enc_from a b f t l (by omega) (by omega), Udp.enc_to a b f t l (by omega) (by omega)] at this
    have e : (⟨(Udp.enc a b f t l).toArray⟩ : ByteArray).extract 8 (⟨(Udp.enc a b f t l).toArray⟩ : ByteArray).size = ⟨l.toArray⟩ := by
      rw [ba_self (ByteArray.extract _ _ _), Udp.enc_rest]
    rw [e] at this
    exact this
end Go.Proofs.YtmgjcjacoegocaaGreatDoor.Ip
