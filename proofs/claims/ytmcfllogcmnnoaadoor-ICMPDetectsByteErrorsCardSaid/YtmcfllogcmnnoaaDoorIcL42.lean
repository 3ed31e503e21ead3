/-
  The walk of the law ICMPDetectsByteErrors.
-/
import Derived.Test.YtmcfllogcmnnoaaDoorIcMsg
import Derived.Laws.BytesArg
import Derived.Deep.RegionWith
import Derived.Deep.DeepCutAuto
import Derived.StillTailTactics
namespace Go.Proofs.YtmcfllogcmnnoaaDoor.Ic
set_option maxRecDepth 100000
open Go.RowKit Go.Proofs.YtmcfllogcmnnoaaDoor.Wire Go.Proofs.YtmcfllogcmnnoaaDoor.Gen
open Go.Proofs.YtmcfllogcmnnoaaDoor.Ip (In64)

theorem conv_one8 (W : World) (b : Nat) (m : Int) (h : W.cell? ⟨b, 0, none⟩ = some (.int .u8 m)) : (convert 47 9 (.slice (some ⟨b, 0, none⟩) 1 1)).run Tryd.prog W = .ok (.string ⟨#[UInt8.ofNat m.toNat]⟩) W := by
  rw [run_convert_bytes_arg W 47 5 Tryd.underlying47 Tryd.underlying5 b 0 1 1 [m] rfl ?_ 9 Tryd.underlying9]
  · rfl
  · intro i hi
    obtain rfl : i = 0 := by omega
    exact h
theorem extR8 (R : List UInt8) (a b : Nat) : (⟨R.toArray⟩ : ByteArray).extract a b = ⟨((R.take b).drop a).toArray⟩ := by
  apply ByteArray.ext
  apply Array.ext'
  rw [ByteArray.data_extract]
  simp [List.drop_take]
theorem flip_arg8 (R : List UInt8) (k : Nat) (hk : k < R.length) (v : UInt8) : ((⟨R.toArray⟩ : ByteArray).extract 0 k ++ ⟨#[v]⟩ ++ (⟨R.toArray⟩ : ByteArray).extract (k + 1) R.length) = ⟨(R.set k v).toArray⟩ := by
  rw [extR8, extR8]
  have e3 : (⟨#[v]⟩ : ByteArray) = ⟨[v].toArray⟩ := rfl
  rw [e3, ba_append, ba_append, List.set_eq_take_append_cons_drop, if_pos hk]
  simp
set_option maxHeartbeats 8000000 in
theorem byte_law (x0 x1 x2 : Int) (xs : ByteArray) (at_ b : Int) (a0 a1 : Addr) (w : World) (hg : GlE w a0 a1) (h0 : In64 x0) (h1 : In64 x1) (h2 : In64 x2) (hs : xs.size ≤ 9223372036854775807) (hat : In64 at_) :
    Calls Tryd.prog 7 #[.agg #[.int .i64 x0, .int .i64 x1, .int .i64 x2, .string xs], .int .i64 at_, .int .u8 b] w fun e w' => e = .returned (.bool true) ∧ Below w.heap.size w w' := by
  have hg0 := Lib.hid hg
  go_enter Tryd.func7, Tryd.ntmps7
  have HB := Below.refl w.heap.size w
  have Hx := Lib.hid (alloc_new' w (.cells #[.int .i64 x0, .int .i64 x1, .int .i64 x2, .string xs] 23) (w.heap.size) (by simp))
  have HB' := below_alloc (o := .cells #[.int .i64 x0, .int .i64 x1, .int .i64 x2, .string xs] 23) HB; clear HB; have HB := HB'; clear HB'
  go_wp2_with fail
  refine (sane_any a0 a1 _ (hg0.out.below HB)).mono ?_
  rintro e w1 ⟨rfl, hb⟩
  have Hx' := Lib.hid (bblock hb Hx.out); clear Hx; have Hx := Hx'; clear Hx'
  have HB' := below_call HB hb; clear HB hb; have HB := HB'; clear HB'; have hz1 := HB.size
  have lt_x_1 := blk_lt Hx.out
  have Sx := cells4 Hx.out
  obtain ⟨⟨qx0, qx1, qx2, qx3⟩, zx0, zx1, zx2, zx3⟩ := Sx
  have lt_x := blk_lt Hx.out
  go_wp2_with fail
  refine (msg_any x0 x1 x2 xs _ h0 h1 h2 hs).mono ?_
  rintro e w2 ⟨k, c, n, s, hok, rfl, hb⟩
  clear qx0 zx0 qx1 zx1 qx2 zx2 qx3 zx3
  have Hx' := Lib.hid (bblock hb Hx.out); clear Hx; have Hx := Hx'; clear Hx'
  have HB' := below_call HB hb; clear HB hb; have HB := HB'; clear HB'; have hz2 := HB.size
  have lt_x_2 := blk_lt Hx.out
  clear Hx
  have hsz := hok.bd.2.2.2
  have HEN := Lib.hid fun W => encode_ok k c n s W hok
  have hD := (enc_dcK k c n s hok).1
  have hLl : (menc k c n s).length = 8 + s.size := menc_len k c n s
  obtain ⟨R, hR⟩ : ∃ R, R = menc k c n s := ⟨_, rfl⟩
  rw [← hR] at HEN hD hLl
  have HDK := Lib.hid hD; clear hD hR
  have hL8 : 8 ≤ R.length := by omega
  have hL5 : R.length ≤ 508 := by omega
  clear hok hsz hLl
  have PA := Lib.hid fun W => pick8_any at_ (R.length : Int) W hat (by omega) (by omega)
  have hkb := pick_lt at_ (R.length : Int) (by omega)
  obtain ⟨kk, hkk⟩ := Int.eq_ofNat_of_zero_le hkb.1
  rw [hkk] at hkb PA
  clear hkk
  have hkn : kk < R.length := by omega
  have hln0 : ((R.length : Int) == 0) = false := beq_eq_false_iff_ne.2 (by omega)
  go_wp2_with fail
  refine (HEN.out _).mono ?_
  rintro e w3 ⟨rfl, hb⟩
  have HB' := below_call HB hb; clear HB hb; have HB := HB'; clear HB'; have hz3 := HB.size
  have b1 : (0 : Int) ≤ (kk : Int) := by omega
  have b2 : (kk : Int) < (R.length : Int) := by omega
  have b3 : (kk : Int) ≤ (R.length : Int) := by omega
  have b4 : (kk : Int) + 1 ≤ (R.length : Int) := by omega
  have b5 : (0 : Int) ≤ (kk : Int) + 1 := by omega
  have b6 : IntKind.i64.wrap ((kk : Int) + 1) = (kk : Int) + 1 := IntWalk.i64_in _ (by omega)
  have b7 : ((kk : Int) + 1).toNat = kk + 1 := by omega
  have hcv := conv_one8
  go_upto_region 6 with (go_at_call 23; (with_reducible refine (PA.out _).mono ?_); rintro e w' ⟨rfl, rfl⟩)
  go_cut [10] (fun s10 wx => ∃ O : ByteArray, s10 = .string O ∧ O = ⟨(R.set kk (UInt8.ofNat b.toNat)).toArray⟩ ∧ Below w.heap.size w wx)
  case first =>
    go_region_with (fail)
    all_goals
      go_wp2_with fail
      go_meet
      exact ⟨_, rfl, flip_arg8 R kk hkn _, by repeat (first | exact HB | apply Below.drew | apply below_alloc)⟩
  case rest =>
    obtain ⟨O, rfl, hO, HB2⟩ := hcut
    clear HB
    have HB := HB2; clear HB2
    have hOs : O.size ≤ 508 := by rw [hO, sz, List.length_set]; exact hL5
    have HDA := Lib.hid fun W (hw : GlE W a0 a1) => decode_any O (by omega) a0 a1 W hw
    have hgc := hg0.out.below HB
    by_cases hbk : UInt8.ofNat b.toNat = R[kk]
    · have hOR : O = ⟨R.toArray⟩ := by rw [hO, hbk]; congr 1; simp
      have hdk : dcK O := by rw [hOR]; exact HDK.out
      have HDE : Hid (∀ W, GlE W a0 a1 → Calls Tryd.prog 16 #[.string O] W fun e w' => e = .returned (.tuple #[dcV O, .int .i64 0]) ∧ Below W.heap.size W w') := Lib.hid fun W hw => by
        refine (HDA.out W hw).mono ?_
        rintro e w' ⟨hb, ⟨-, rfl⟩ | ⟨hn, -⟩⟩
        · exact ⟨rfl, hb⟩
        · exact absurd hdk hn
      have hRR : (⟨R.toArray⟩ : ByteArray).toList = R := by rw [ByteArray.toList_eq]
      have heq : (R == O.toList) = true := by rw [hOR, hRR]; simp
      clear hRR
      unfold dcV at HDE
      clear hO hOR hdk HDA hbk
      go_wp2_with (go_at_call 16; (with_reducible refine (HDE.out _ hgc).mono ?_); rintro e w8 ⟨rfl, hb8⟩)
      go_ret
      exact ⟨rfl, below_alloc (below_call HB hb8)⟩
    · have hdk : ¬ dcK O := by rw [hO]; exact set_no R HDK.out kk hkn _ hbk
      have HDE : Hid (∀ W, GlE W a0 a1 → Calls Tryd.prog 16 #[.string O] W fun e w' => e = .returned (.tuple #[mzV, .int .i64 80]) ∧ Below W.heap.size W w') := Lib.hid fun W hw => by
        refine (HDA.out W hw).mono ?_
        rintro e w' ⟨hb, ⟨hn, -⟩ | ⟨-, rfl⟩⟩
        · exact absurd hn hdk
        · exact ⟨rfl, hb⟩
      have hRR : (⟨R.toArray⟩ : ByteArray).toList = R := by rw [ByteArray.toList_eq]
      have heq : (R == O.toList) = false := by have := ba_ne (t := ⟨R.toArray⟩) (s := O) (fun q => hdk (by rw [← q]; exact HDK.out)); rwa [hRR] at this
      clear hRR
      unfold mzV at HDE
      clear hO hdk HDA hbk
      go_wp2_with (go_at_call 16; (with_reducible refine (HDE.out _ hgc).mono ?_); rintro e w8 ⟨rfl, hb8⟩)
      go_ret
      exact ⟨rfl, below_alloc (below_call HB hb8)⟩
end Go.Proofs.YtmcfllogcmnnoaaDoor.Ic
