/-
  Contracts of ip.header and ip.Encode.
-/
import Derived.Test.YtpiohahfdekmhaaDoorBase2
import Derived.Test.YtpiohahfdekmhaaDoorPlain
import Derived.Test.YtpiohahfdekmhaaDoorIpValid
import Derived.Deep.DeepCutAuto
import Derived.Laws.Rows
import Derived.Outline
namespace Go.Proofs.YtpiohahfdekmhaaDoor.Ip
set_option maxRecDepth 100000
open Go.RowKit Go.Proofs.YtpiohahfdekmhaaDoor.Wire

def flagsOf (df mf : Bool) : Int := (if df then 1 else 0) + (if mf then 2 else 0)
theorem flagsOf_bd (df mf : Bool) : 0 ≤ flagsOf df mf ∧ flagsOf df mf ≤ 3 := by cases df <;> cases mf <;> decide
def parts (f t pr ttl id fl off len : Int) : List (List UInt8) := [be 1 4, be 4 f, be 4 t, be 1 pr, be 1 ttl, be 2 id, be 1 fl, be 2 (off / 8), be 2 len]
def front (f t pr ttl id : Int) (df mf : Bool) (off len : Int) : List UInt8 := (parts f t pr ttl id (flagsOf df mf) off len).flatten
def hdr (f t pr ttl id : Int) (df mf : Bool) (off len : Int) : List UInt8 := front f t pr ttl id df mf off len ++ be 2 (csum ⟨(front f t pr ttl id df mf off len ++ [0, 0]).toArray⟩)

theorem ret2_str {a b : ByteArray} {v : Value} (h : a = b) : Ending.returned (.tuple #[.string a, v]) = .returned (.tuple #[.string b, v]) := by rw [h]
theorem ba_append_s (l : List UInt8) (s : ByteArray) : (⟨l.toArray⟩ : ByteArray) ++ s = ⟨(l ++ s.data.toList).toArray⟩ := by
  apply ByteArray.ext
  simp [ByteArray.data_append]
theorem csum_bd (s : ByteArray) : 0 ≤ csum s ∧ csum s ≤ 65535 := by
  have h := total_bd s ((s.size + 1) / 2)
  unfold csum wsum fold
  split <;> omega
theorem ba_append2 (l : List UInt8) : (⟨l.toArray⟩ : ByteArray) ++ ⟨#[0, 0]⟩ = ⟨(l ++ [0, 0]).toArray⟩ := ba_append l [0, 0]
theorem parts_len (f t pr ttl id fl off len : Int) (k : Nat) : ((parts f t pr ttl id fl off len).take k).flatten.length ≤ 18 := by
  have h : (parts f t pr ttl id fl off len).flatten.length = 18 := by simp [parts, be_length]
  have h2 := congrArg List.flatten (List.take_append_drop k (parts f t pr ttl id fl off len))
  rw [List.flatten_append] at h2
  have h3 := congrArg List.length h2
  rw [List.length_append, h] at h3
  omega
theorem idx9 (f t pr ttl id fl off len : Int) (h1 : 0 ≤ f ∧ f < 4294967296) (h2 : 0 ≤ t ∧ t < 4294967296) (h3 : 0 ≤ pr ∧ pr < 256) (h4 : 0 ≤ ttl ∧ ttl < 256) (h5 : 0 ≤ id ∧ id < 65536) (h6 : 0 ≤ fl ∧ fl < 256) (h7 : 0 ≤ off / 8 ∧ off / 8 < 65536) (h8 : 0 ≤ len ∧ len < 65536) (k : Nat) (hk : k < 9) :
    ∃ n b : Int, (∀ W, (Instr.index 76 (.agg #[.int .i64 4, .int .i64 1, .int .i64 f, .int .i64 4, .int .i64 t, .int .i64 4, .int .i64 pr, .int .i64 1, .int .i64 ttl, .int .i64 1, .int .i64 id, .int .i64 2, .int .i64 fl, .int .i64 1, .int .i64 (off / 8), .int .i64 2, .int .i64 len, .int .i64 2]) (.int .i64 (k : Int))).run Tryd.prog W = .ok (.agg #[.int .i64 n, .int .i64 b]) W) ∧ 1 ≤ b ∧ b ≤ 4 ∧ 0 ≤ n ∧ n < 256 ^ b.toNat ∧
      ((parts f t pr ttl id fl off len).take (k + 1)).flatten = ((parts f t pr ttl id fl off len).take k).flatten ++ be b.toNat n := by
  match k, hk with
  | 0, _ => exact ⟨4, 1, fun _ => by kernel_rfl, by omega, by omega, by omega, by simp, by simp [parts]⟩
  | 1, _ => exact ⟨f, 4, fun _ => by kernel_rfl, by omega, by omega, by omega, by simp; omega, by simp [parts]⟩
  | 2, _ => exact ⟨t, 4, fun _ => by kernel_rfl, by omega, by omega, by omega, by simp; omega, by simp [parts]⟩
  | 3, _ => exact ⟨pr, 1, fun _ => by kernel_rfl, by omega, by omega, by omega, by simp; omega, by simp [parts]⟩
  | 4, _ => exact ⟨ttl, 1, fun _ => by kernel_rfl, by omega, by omega, by omega, by simp; omega, by simp [parts]⟩
  | 5, _ => exact ⟨id, 2, fun _ => by kernel_rfl, by omega, by omega, by omega, by simp; omega, by simp [parts]⟩
  | 6, _ => exact ⟨fl, 1, fun _ => by kernel_rfl, by omega, by omega, by omega, by simp; omega, by simp [parts]⟩
  | 7, _ => exact ⟨off / 8, 2, fun _ => by kernel_rfl, by omega, by omega, by omega, by simp; omega, by simp [parts]⟩
  | 8, _ => exact ⟨len, 2, fun _ => by kernel_rfl, by omega, by omega, by omega, by simp; omega, by simp [parts]⟩

set_option maxRecDepth 100000 in
set_option maxHeartbeats 4000000 in
theorem header_ok (f t pr ttl id : Int) (df mf : Bool) (off : Int) (s : ByteArray) (len : Int) (w : World) (h0 : 0 ≤ len) (h : VLen f t pr ttl id df mf off len) :
    Calls Tryd.prog 15 #[.agg #[.int .i64 f, .int .i64 t, .int .i64 pr, .int .i64 ttl, .int .i64 id, .bool df, .bool mf, .int .i64 off, .string s], .int .i64 len] w fun e w' => e = .returned (.string ⟨(hdr f t pr ttl id df mf off len).toArray⟩) ∧ Below w.heap.size w w' := by
  have HV : Hid (∀ w, Calls Tryd.prog 28 #[.agg #[.int .i64 f, .int .i64 t, .int .i64 pr, .int .i64 ttl, .int .i64 id, .bool df, .bool mf, .int .i64 off, .string s], .int .i64 len] w fun e w' => e = .returned (.bool true) ∧ Below w.heap.size w w') := Lib.hid fun w => by
    have := validLength_any f t pr ttl id df mf off s len w h0 (by unfold VLen at h; omega)
    rwa [show vlenB f t pr ttl id df mf off len = true from decide_eq_true h] at this
  obtain ⟨⟨a1, a2, a3, a4⟩, ⟨a5, a6, a7, a8, a9, a10⟩, ⟨a11, a12, a13, a14⟩, -, -, -⟩ := h
  go_enter Tryd.func15, Tryd.ntmps15
  have HB := Below.refl w.heap.size w
  have Hp := Lib.hid (alloc_new' w (.cells #[.int .i64 f, .int .i64 t, .int .i64 pr, .int .i64 ttl, .int .i64 id, .bool df, .bool mf, .int .i64 off, .string s] 26) (w.heap.size) (by simp))
  have HB' := below_alloc (o := .cells #[.int .i64 f, .int .i64 t, .int .i64 pr, .int .i64 ttl, .int .i64 id, .bool df, .bool mf, .int .i64 off, .string s] 26) HB; clear HB; have HB := HB'; clear HB'
  go_wp2_with fail
  refine (HV.out _).mono ?_
  rintro e w1 ⟨rfl, hb⟩
  have Hp' := Lib.hid (bblock hb Hp.out); clear Hp; have Hp := Hp'; clear Hp'
  have HB' := below_call HB hb; clear HB hb; have HB := HB'; clear HB'; have hz1 := HB.size
  have Sp := cells9 Hp.out
  obtain ⟨⟨qp0, qp1, qp2, qp3, qp4, qp5, qp6, qp7, qp8⟩, zp0, zp1, zp2, zp3, zp4, zp5, zp6, zp7, zp8⟩ := Sp
  have lt_p := blk_lt Hp.out
  go_upto_if 20 with fail
  go_cut [5] (fun s5 wx => s5 = .int .i64 (if df then 1 else 0) ∧ w1 = wx)
  case first =>
    cases df <;> (go_wp2_with fail; go_meet; exact ⟨rfl, rfl⟩)
  case rest =>
    obtain ⟨rfl, rfl⟩ := hcut
    go_upto_if 24 with fail
    go_cut [5] (fun s5 wx => s5 = .int .i64 (flagsOf df mf) ∧ w1 = wx)
    case first =>
      cases df <;> cases mf <;> (go_wp2_with fail; go_meet; exact ⟨rfl, rfl⟩)
    case rest =>
      obtain ⟨rfl, rfl⟩ := hcut
      have hfl := flagsOf_bd df mf; have hq8a : 0 ≤ off / 8 := (by omega); have hq8b : off / 8 ≤ 500 := (by omega)
      generalize hflq : flagsOf df mf = fl at *; have Hfl := Lib.hid hflq; clear hflq
      go_upto_region 8 with fail
      go_cut [6] (fun s6 wx => s6 = .pointer (some ⟨w1.heap.size, 0, none⟩) ∧ wx = w1.alloc (.cells #[.int .i64 4, .int .i64 1, .int .i64 f, .int .i64 4, .int .i64 t, .int .i64 4, .int .i64 pr, .int .i64 1, .int .i64 ttl, .int .i64 1, .int .i64 id, .int .i64 2, .int .i64 fl, .int .i64 1, .int .i64 (off / 8), .int .i64 2, .int .i64 len, .int .i64 2] 76))
      case first =>
        go_wp2_with fail
        go_meet
        exact ⟨rfl, rfl⟩
      case rest =>
        obtain ⟨rfl, rfl⟩ := hcut
        clear qp0 zp0 qp1 zp1 qp2 zp2 qp3 zp3 qp4 zp4 qp5 zp5 qp6 zp6 qp7 zp7 qp8 zp8
        clear Hp lt_p
        have Ha := Lib.hid (alloc_new' w1 (.cells #[.int .i64 4, .int .i64 1, .int .i64 f, .int .i64 4, .int .i64 t, .int .i64 4, .int .i64 pr, .int .i64 1, .int .i64 ttl, .int .i64 1, .int .i64 id, .int .i64 2, .int .i64 fl, .int .i64 1, .int .i64 (off / 8), .int .i64 2, .int .i64 len, .int .i64 2] 76) (w1.heap.size) (by simp))
        have HB' := below_alloc (o := .cells #[.int .i64 4, .int .i64 1, .int .i64 f, .int .i64 4, .int .i64 t, .int .i64 4, .int .i64 pr, .int .i64 1, .int .i64 ttl, .int .i64 1, .int .i64 id, .int .i64 2, .int .i64 fl, .int .i64 1, .int .i64 (off / 8), .int .i64 2, .int .i64 len, .int .i64 2] 76) HB; clear HB; have HB := HB'; clear HB'
        generalize hw2 : w1.alloc (.cells #[.int .i64 4, .int .i64 1, .int .i64 f, .int .i64 4, .int .i64 t, .int .i64 4, .int .i64 pr, .int .i64 1, .int .i64 ttl, .int .i64 1, .int .i64 id, .int .i64 2, .int .i64 fl, .int .i64 1, .int .i64 (off / 8), .int .i64 2, .int .i64 len, .int .i64 2] 76) = w2 at *; clear hw2
        go_wp2_with (refine wpList_load_row rfl 76 (.tmp 6) rfl w1.heap.size rfl 76 #[.int .i64 4, .int .i64 1, .int .i64 f, .int .i64 4, .int .i64 t, .int .i64 4, .int .i64 pr, .int .i64 1, .int .i64 ttl, .int .i64 1, .int .i64 id, .int .i64 2, .int .i64 fl, .int .i64 1, .int .i64 (off / 8), .int .i64 2, .int .i64 len, .int .i64 2] (0, 0) _ (block_alloc Ha.out _) Tryd.underlying76 rfl (by kernel_rfl) ?_)
        have HB2 := below_alloc (o := .cells #[.pointer none, .slice none 0 0] 79) HB
        have hsz2 := HB.size
        go_loopw [53] (fun i wr => ∃ k : Nat, k ≤ 9 ∧ i = .int .i64 (k : Int) ∧ IsB w2.heap.size w2.heap.size ((parts f t pr ttl id fl off len).take k).flatten wr ∧ Below w.heap.size w wr) (fun i _ => 9 - (intOf i).toNat)
        case atStart => exact ⟨0, by omega, rfl, isB_new w2, HB2⟩
        case round =>
          clear HB HB2 Ha
          obtain ⟨k, hk, rfl, HI, HB⟩ := hrel
          have HI := Lib.hid HI
          have hlen := parts_len f t pr ttl id fl off len k
          by_cases hlt : k < 9
          · obtain ⟨n, b, hidx, hb1, hb4, hn0, hn, hH⟩ := idx9 f t pr ttl id fl off len (by omega) (by omega) (by omega) (by omega) (by omega) (by omega) (by omega) (by omega) k hlt
            have HH := Lib.hid hH; have HN := Lib.hid hn; clear hH hn
            generalize ((parts f t pr ttl id fl off len).take k).flatten = L at *
            go_wp2_with fail
            refine (put_okI n b _ hb1 hb4 hn0 HN.out).mono ?_
            rintro e w3 ⟨rfl, hb⟩
            have HI' := isB_below (isB_alloc HI.out _) hb; have HB' := below_call (below_alloc HB) hb; clear HI HB hb
            have HI := Lib.hid HI'; clear HI'
            clear hidx
            go_wp2_with fail
            have hbl := be_length b.toNat n
            refine (bwrite_any _ _ L _ _ HI.out (by rw [sz, hbl]; omega)).mono ?_
            rintro e w4 ⟨rfl, HJ, hb⟩
            have HJ := Lib.hid HJ; have HB := HB'.trans (hb.mono hsz2); clear HB' hb HI hbl
            go_wp2_with fail
            go_roundw
            case rel => exact ⟨k + 1, by omega, by go_num, by rw [HH.out]; exact HJ.out, HB⟩
            case measure => simp [intOf]; omega
          · obtain rfl : k = 9 := by omega
            have HF : Hid (((parts f t pr ttl id fl off len).take 9).flatten = front f t pr ttl id df mf off len) := Lib.hid (by unfold front; rw [Hfl.out]; rfl)
            generalize ((parts f t pr ttl id fl off len).take 9).flatten = L at *
            go_wp2_with fail
            refine (bstring_any _ _ L _ HI.out).mono ?_
            rintro e w3 ⟨rfl, hb⟩
            have HB' := HB.trans (hb.mono hsz2); clear HB hb HI
            go_wp2_with fail
            refine (checksum_any _ (by simp [ByteArray.size_append, sz]; omega) _).mono ?_
            rintro e w4 ⟨rfl, hb⟩
            have HB := below_call HB' hb; clear HB' hb
            have hcb := csum_bd (⟨L.toArray⟩ ++ ⟨#[0, 0]⟩)
            generalize hcs : csum (⟨L.toArray⟩ ++ ⟨#[0, 0]⟩) = c at *; have Hcs := Lib.hid hcs; clear hcs
            go_wp2_with fail
            refine (put_okI c 2 _ (by omega) (by omega) (by omega) (by simp; omega)).mono ?_
            rintro e w5 ⟨rfl, hb⟩
            have HB' := below_call HB hb; clear HB hb
            have hbl := be_length
            go_wp2_with fail
            go_ret
            refine ⟨ret_str ?_, HB'⟩
            rw [ba_append]
            unfold hdr; rw [← HF.out, ← Hcs.out, ba_append2]

theorem header_no (f t pr ttl id : Int) (df mf : Bool) (off : Int) (s : ByteArray) (len : Int) (w : World) (h0 : 0 ≤ len) (h1 : len ≤ 9223372036854775807) (h : ¬ VLen f t pr ttl id df mf off len) :
    Calls Tryd.prog 15 #[.agg #[.int .i64 f, .int .i64 t, .int .i64 pr, .int .i64 ttl, .int .i64 id, .bool df, .bool mf, .int .i64 off, .string s], .int .i64 len] w fun e w' => e = .returned (.string ⟨#[]⟩) ∧ Below w.heap.size w w' := by
  have HV : Hid (∀ w, Calls Tryd.prog 28 #[.agg #[.int .i64 f, .int .i64 t, .int .i64 pr, .int .i64 ttl, .int .i64 id, .bool df, .bool mf, .int .i64 off, .string s], .int .i64 len] w fun e w' => e = .returned (.bool false) ∧ Below w.heap.size w w') := Lib.hid fun w => by
    have := validLength_any f t pr ttl id df mf off s len w h0 h1
    rwa [show vlenB f t pr ttl id df mf off len = false from decide_eq_false h] at this
  clear h
  go_enter Tryd.func15, Tryd.ntmps15
  go_wp2_with fail
  refine (HV.out _).mono ?_
  rintro e w1 ⟨rfl, hb1⟩
  go_wp2_with fail
  go_ret
  exact ⟨rfl, below_call (below_alloc (Below.refl _ _)) hb1⟩

theorem front_length (f t pr ttl id : Int) (df mf : Bool) (off len : Int) : (front f t pr ttl id df mf off len).length = 18 := by simp [front, parts, be_length]
theorem hdr_length (f t pr ttl id : Int) (df mf : Bool) (off len : Int) : (hdr f t pr ttl id df mf off len).length = 20 := by
  unfold hdr; rw [List.length_append, front_length, be_length]
set_option maxRecDepth 100000 in
theorem Encode_ok (f t pr ttl id : Int) (df mf : Bool) (off : Int) (s : ByteArray) (w : World) (h : VLen f t pr ttl id df mf off s.size) :
    Calls Tryd.prog 6 #[.agg #[.int .i64 f, .int .i64 t, .int .i64 pr, .int .i64 ttl, .int .i64 id, .bool df, .bool mf, .int .i64 off, .string s]] w fun e w' => e = .returned (.tuple #[.string ⟨(hdr f t pr ttl id df mf off s.size ++ s.data.toList).toArray⟩, .int .i64 0]) ∧ Below w.heap.size w w' := by
  have HH := Lib.hid fun w => header_ok f t pr ttl id df mf off s s.size w (by omega) h
  have hs : s.size ≤ 4000 := by unfold VLen at h; omega
  have hl := hdr_length f t pr ttl id df mf off s.size
  clear h
  generalize hR : hdr f t pr ttl id df mf off s.size = R at *
  have hRl : R.length ≤ 20 := by omega
  have hR1 : 1 ≤ R.length := by omega
  have hRe : R.isEmpty = false := by cases R <;> simp_all
  have hRn : (R == []) = false := by cases R <;> simp_all
  clear hR hl
  go_enter Tryd.func6, Tryd.ntmps6
  have HB := Below.refl w.heap.size w
  have Hp := Lib.hid (alloc_new' w (.cells #[.int .i64 f, .int .i64 t, .int .i64 pr, .int .i64 ttl, .int .i64 id, .bool df, .bool mf, .int .i64 off, .string s] 26) (w.heap.size) (by simp))
  have HB' := below_alloc (o := .cells #[.int .i64 f, .int .i64 t, .int .i64 pr, .int .i64 ttl, .int .i64 id, .bool df, .bool mf, .int .i64 off, .string s] 26) HB; clear HB; have HB := HB'; clear HB'
  go_wp2_with fail
  refine (HH.out _).mono ?_
  rintro e w1 ⟨rfl, hb⟩
  have Hp' := Lib.hid (bblock hb Hp.out); clear Hp; have Hp := Hp'; clear Hp'
  have HB' := below_call HB hb; clear HB hb; have HB := HB'; clear HB'; have hz1 := HB.size
  have Sp := cells9 Hp.out
  obtain ⟨⟨qp0, qp1, qp2, qp3, qp4, qp5, qp6, qp7, qp8⟩, zp0, zp1, zp2, zp3, zp4, zp5, zp6, zp7, zp8⟩ := Sp
  have lt_p := blk_lt Hp.out
  go_wp2_with fail
  go_ret2
  refine ⟨ret2_str ?_, HB⟩
  exact ba_append_s R s

theorem Encode_no (f t pr ttl id : Int) (df mf : Bool) (off : Int) (s : ByteArray) (w : World) (hs : s.size ≤ 9223372036854775807) (h : ¬ VLen f t pr ttl id df mf off s.size) :
    Calls Tryd.prog 6 #[.agg #[.int .i64 f, .int .i64 t, .int .i64 pr, .int .i64 ttl, .int .i64 id, .bool df, .bool mf, .int .i64 off, .string s]] w fun e w' => e = .returned (.tuple #[.string ⟨#[]⟩, .int .i64 60]) ∧ Below w.heap.size w w' := by
  have HH := Lib.hid fun w => header_no f t pr ttl id df mf off s s.size w (by omega) (by omega) h
  clear h
  go_enter Tryd.func6, Tryd.ntmps6
  go_wp2_with fail
  refine (HH.out _).mono ?_
  rintro e w1 ⟨rfl, hb1⟩
  go_wp2_with fail
  go_ret2
  exact ⟨rfl, below_call (below_alloc (Below.refl _ _)) hb1⟩
end Go.Proofs.YtpiohahfdekmhaaDoor.Ip
