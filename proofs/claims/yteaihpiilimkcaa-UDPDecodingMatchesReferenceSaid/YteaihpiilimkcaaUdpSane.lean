/-
  The contract of the check of fixed calls of chapter 10: it returns true.
-/
import Derived.Test.YteaihpiilimkcaaUdpGen
namespace Go.Proofs.Yteaihpiilimkcaa.Udp
open Go.RowKit Go.Proofs.Yteaihpiilimkcaa.Wire Go.Proofs.Yteaihpiilimkcaa.Gen

theorem sane_bytes : enc 1 2 3 4 [97, 98] = [0, 3, 0, 4, 0, 10, 158, 110, 97, 98] := by decide +kernel
theorem sane_enc (w : World) : Calls Try.prog 12 #[.int .i64 1, .int .i64 2, .agg #[.int .i64 3, .int .i64 4, .string ⟨#[97, 98]⟩]] w fun e w' => e = .returned (.tuple #[.string ⟨#[0, 3, 0, 4, 0, 10, 158, 110, 97, 98]⟩, .int .i64 0]) ∧ Below w.heap.size w w' := by
  have h := Encode_ok 1 2 3 4 ⟨#[97, 98]⟩ w (by decide)
  have e : enc 1 2 3 4 (⟨#[97, 98]⟩ : ByteArray).data.toList = [0, 3, 0, 4, 0, 10, 158, 110, 97, 98] := sane_bytes
  rw [e] at h
  exact h
theorem sane_dec (w : World) : Calls Try.prog 16 #[.int .i64 1, .int .i64 2, .string ⟨#[0, 3, 0, 4, 0, 10, 158, 110, 97, 98]⟩] w fun e w' => e = .returned (.tuple #[.agg #[.int .i64 3, .int .i64 4, .string ⟨#[97, 98]⟩], .int .i64 0]) ∧ Below w.heap.size w w' := by
  have hd := round 1 2 3 4 [97, 98] (by decide)
  rw [sane_bytes] at hd
  have h := Decode_good 1 2 ⟨#[0, 3, 0, 4, 0, 10, 158, 110, 97, 98]⟩ w (by decide) hd
  have e1 : num (bytesAt ⟨#[0, 3, 0, 4, 0, 10, 158, 110, 97, 98]⟩ 0 2) = 3 := by decide +kernel
  have e2 : num (bytesAt ⟨#[0, 3, 0, 4, 0, 10, 158, 110, 97, 98]⟩ 2 2) = 4 := by decide +kernel
  have e3 : ((⟨#[0, 3, 0, 4, 0, 10, 158, 110, 97, 98]⟩ : ByteArray).extract 8 (⟨#[0, 3, 0, 4, 0, 10, 158, 110, 97, 98]⟩ : ByteArray).size) = ⟨#[97, 98]⟩ := by decide +kernel
  rw [e1, e2, e3] at h
  exact h
theorem sane_dec2 (w : World) : Calls Try.prog 16 #[.int .i64 1, .int .i64 3, .string ⟨#[0, 3, 0, 4, 0, 10, 158, 110, 97, 98]⟩] w fun e w' => e = .returned (.tuple #[.agg #[.int .i64 0, .int .i64 0, .string ⟨#[]⟩], .int .i64 100]) ∧ Below w.heap.size w w' :=
  Decode_err 1 3 ⟨#[0, 3, 0, 4, 0, 10, 158, 110, 97, 98]⟩ w (by decide) (fun h => absurd h.2.2 (by decide +kernel))
theorem sane_dec3 (w : World) : Calls Try.prog 16 #[.int .i64 1, .int .i64 2, .string ⟨#[]⟩] w fun e w' => e = .returned (.tuple #[.agg #[.int .i64 0, .int .i64 0, .string ⟨#[]⟩], .int .i64 100]) ∧ Below w.heap.size w w' :=
  Decode_err 1 2 ⟨#[]⟩ w (by decide) (fun h => absurd h.1 (by decide))
theorem sane_enc2 (w : World) : Calls Try.prog 12 #[.int .i64 0, .int .i64 2, .agg #[.int .i64 3, .int .i64 4, .string ⟨#[97, 98]⟩]] w fun e w' => e = .returned (.tuple #[.string ⟨#[]⟩, .int .i64 100]) ∧ Below w.heap.size w w' :=
  Encode_no 0 2 3 4 ⟨#[97, 98]⟩ w (by decide) (by decide)
theorem sane_enc3 (w : World) : Calls Try.prog 12 #[.int .i64 1, .int .i64 2, .agg #[.int .i64 0, .int .i64 4, .string ⟨#[]⟩]] w fun e w' => e = .returned (.tuple #[.string ⟨#[]⟩, .int .i64 100]) ∧ Below w.heap.size w w' :=
  Encode_no 1 2 0 4 ⟨#[]⟩ w (by decide) (by decide)
theorem sane_val (w : World) : Calls Try.prog 14 #[.agg #[.int .i64 3, .int .i64 4, .string ⟨#[97, 98]⟩]] w fun e w' => e = .returned (.bool true) ∧ Below w.heap.size w w' :=
  (valid_any 3 4 ⟨#[97, 98]⟩ w (by decide)).mono fun _ _ h => ⟨h.1.trans (ret_bool (by decide)), h.2⟩
theorem sane_val2 (w : World) : Calls Try.prog 14 #[.agg #[.int .i64 65536, .int .i64 1, .string ⟨#[]⟩]] w fun e w' => e = .returned (.bool false) ∧ Below w.heap.size w w' :=
  (valid_any 65536 1 ⟨#[]⟩ w (by decide)).mono fun _ _ h => ⟨h.1.trans (ret_bool (by decide)), h.2⟩

set_option maxRecDepth 100000 in
set_option maxHeartbeats 4000000 in
theorem sane_any (w : World) : Calls Try.prog 7 #[] w fun e w' => e = .returned (.bool true) ∧ Below w.heap.size w w' := by
  have HB := Below.refl w.heap.size w
  go_enter Try.func7, Try.ntmps7
  have Hu := Lib.hid (alloc_new w (.cells #[.int .i64 3, .int .i64 4, .string ⟨#[97, 98]⟩] 26))
  have HB' := below_alloc (o := .cells #[.int .i64 3, .int .i64 4, .string ⟨#[97, 98]⟩] 26) HB; clear HB; have HB := HB'; clear HB'
  have Su := cells3 Hu.out
  obtain ⟨⟨qu0, qu1, qu2⟩, zu0, zu1, zu2⟩ := Su
  go_wp2_with fail
  refine (sane_enc _).mono ?_
  rintro e w1 ⟨rfl, hb⟩
  clear qu0 zu0 qu1 zu1 qu2 zu2
  have Hu' := Lib.hid (bblock hb Hu.out); clear Hu; have Hu := Hu'; clear Hu'
  have HB' := below_call HB hb; clear HB hb; have HB := HB'; clear HB'
  have Su := cells3 Hu.out
  obtain ⟨⟨qu0, qu1, qu2⟩, zu0, zu1, zu2⟩ := Su
  go_wp2_with fail
  refine (sane_dec _).mono ?_
  rintro e w2 ⟨rfl, hb⟩
  clear qu0 zu0 qu1 zu1 qu2 zu2
  have Hu' := Lib.hid (bblock hb Hu.out); clear Hu; have Hu := Hu'; clear Hu'
  have HB' := below_call HB hb; clear HB hb; have HB := HB'; clear HB'
  have Hv := Lib.hid (alloc_new w2 (.cells #[.int .i64 3, .int .i64 4, .string ⟨#[97, 98]⟩] 26))
  have Hu' := Lib.hid (block_alloc Hu.out (.cells #[.int .i64 3, .int .i64 4, .string ⟨#[97, 98]⟩] 26)); clear Hu; have Hu := Hu'; clear Hu'
  have HB' := below_alloc (o := .cells #[.int .i64 3, .int .i64 4, .string ⟨#[97, 98]⟩] 26) HB; clear HB; have HB := HB'; clear HB'
  have Su := cells3 Hu.out
  obtain ⟨⟨qu0, qu1, qu2⟩, zu0, zu1, zu2⟩ := Su
  have Sv := cells3 Hv.out
  obtain ⟨⟨qv0, qv1, qv2⟩, zv0, zv1, zv2⟩ := Sv
  go_wp2_with fail
  refine (sane_dec2 _).mono ?_
  rintro e w3 ⟨rfl, hb⟩
  clear qu0 zu0 qu1 zu1 qu2 zu2
  clear qv0 zv0 qv1 zv1 qv2 zv2
  have Hu' := Lib.hid (bblock hb Hu.out); clear Hu; have Hu := Hu'; clear Hu'
  have Hv' := Lib.hid (bblock hb Hv.out); clear Hv; have Hv := Hv'; clear Hv'
  have HB' := below_call HB hb; clear HB hb; have HB := HB'; clear HB'
  have Hu' := Lib.hid (block_alloc Hu.out (.cells #[.int .i64 0, .int .i64 0, .string ⟨#[]⟩] 26)); clear Hu; have Hu := Hu'; clear Hu'
  have Hv' := Lib.hid (block_alloc Hv.out (.cells #[.int .i64 0, .int .i64 0, .string ⟨#[]⟩] 26)); clear Hv; have Hv := Hv'; clear Hv'
  have HB' := below_alloc (o := .cells #[.int .i64 0, .int .i64 0, .string ⟨#[]⟩] 26) HB; clear HB; have HB := HB'; clear HB'
  have Su := cells3 Hu.out
  obtain ⟨⟨qu0, qu1, qu2⟩, zu0, zu1, zu2⟩ := Su
  have Sv := cells3 Hv.out
  obtain ⟨⟨qv0, qv1, qv2⟩, zv0, zv1, zv2⟩ := Sv
  go_wp2_with fail
  refine (sane_enc2 _).mono ?_
  rintro e w4 ⟨rfl, hb⟩
  clear qu0 zu0 qu1 zu1 qu2 zu2
  clear qv0 zv0 qv1 zv1 qv2 zv2
  have Hu' := Lib.hid (bblock hb Hu.out); clear Hu; have Hu := Hu'; clear Hu'
  have Hv' := Lib.hid (bblock hb Hv.out); clear Hv; have Hv := Hv'; clear Hv'
  have HB' := below_call HB hb; clear HB hb; have HB := HB'; clear HB'
  have Su := cells3 Hu.out
  obtain ⟨⟨qu0, qu1, qu2⟩, zu0, zu1, zu2⟩ := Su
  have Sv := cells3 Hv.out
  obtain ⟨⟨qv0, qv1, qv2⟩, zv0, zv1, zv2⟩ := Sv
  go_wp2_with fail
  refine (sane_enc3 _).mono ?_
  rintro e w5 ⟨rfl, hb⟩
  clear qu0 zu0 qu1 zu1 qu2 zu2
  clear qv0 zv0 qv1 zv1 qv2 zv2
  have Hu' := Lib.hid (bblock hb Hu.out); clear Hu; have Hu := Hu'; clear Hu'
  have Hv' := Lib.hid (bblock hb Hv.out); clear Hv; have Hv := Hv'; clear Hv'
  have HB' := below_call HB hb; clear HB hb; have HB := HB'; clear HB'
  have x1 : ((⟨#[0, 3, 0, 4, 0, 10, 158, 110, 97, 98]⟩ : ByteArray).extract 0 6).toList = [0, 3, 0, 4, 0, 10] := by decide +kernel
  have x2 : ((⟨#[0, 3, 0, 4, 0, 10, 158, 110, 97, 98]⟩ : ByteArray).extract 8 10).toList = [97, 98] := by decide +kernel
  have Su := cells3 Hu.out
  obtain ⟨⟨qu0, qu1, qu2⟩, zu0, zu1, zu2⟩ := Su
  have Sv := cells3 Hv.out
  obtain ⟨⟨qv0, qv1, qv2⟩, zv0, zv1, zv2⟩ := Sv
  go_wp2_with fail
  refine (sane_dec3 _).mono ?_
  rintro e w6 ⟨rfl, hb⟩
  clear qu0 zu0 qu1 zu1 qu2 zu2
  clear qv0 zv0 qv1 zv1 qv2 zv2
  have Hu' := Lib.hid (bblock hb Hu.out); clear Hu; have Hu := Hu'; clear Hu'
  have Hv' := Lib.hid (bblock hb Hv.out); clear Hv; have Hv := Hv'; clear Hv'
  have HB' := below_call HB hb; clear HB hb; have HB := HB'; clear HB'
  have Hu' := Lib.hid (block_alloc Hu.out (.cells #[.int .i64 0, .int .i64 0, .string ⟨#[]⟩] 26)); clear Hu; have Hu := Hu'; clear Hu'
  have Hv' := Lib.hid (block_alloc Hv.out (.cells #[.int .i64 0, .int .i64 0, .string ⟨#[]⟩] 26)); clear Hv; have Hv := Hv'; clear Hv'
  have HB' := below_alloc (o := .cells #[.int .i64 0, .int .i64 0, .string ⟨#[]⟩] 26) HB; clear HB; have HB := HB'; clear HB'
  have Su := cells3 Hu.out
  obtain ⟨⟨qu0, qu1, qu2⟩, zu0, zu1, zu2⟩ := Su
  have Sv := cells3 Hv.out
  obtain ⟨⟨qv0, qv1, qv2⟩, zv0, zv1, zv2⟩ := Sv
  go_wp2_with fail
  refine (sane_val _).mono ?_
  rintro e w7 ⟨rfl, hb⟩
  clear qu0 zu0 qu1 zu1 qu2 zu2
  clear qv0 zv0 qv1 zv1 qv2 zv2
  have Hu' := Lib.hid (bblock hb Hu.out); clear Hu; have Hu := Hu'; clear Hu'
  have Hv' := Lib.hid (bblock hb Hv.out); clear Hv; have Hv := Hv'; clear Hv'
  have HB' := below_call HB hb; clear HB hb; have HB := HB'; clear HB'
  have Su := cells3 Hu.out
  obtain ⟨⟨qu0, qu1, qu2⟩, zu0, zu1, zu2⟩ := Su
  have Sv := cells3 Hv.out
  obtain ⟨⟨qv0, qv1, qv2⟩, zv0, zv1, zv2⟩ := Sv
  go_wp2_with fail
  refine (sane_val2 _).mono ?_
  rintro e w8 ⟨rfl, hb⟩
  clear qu0 zu0 qu1 zu1 qu2 zu2
  clear qv0 zv0 qv1 zv1 qv2 zv2
  have Hu' := Lib.hid (bblock hb Hu.out); clear Hu; have Hu := Hu'; clear Hu'
  have Hv' := Lib.hid (bblock hb Hv.out); clear Hv; have Hv := Hv'; clear Hv'
  have HB' := below_call HB hb; clear HB hb; have HB := HB'; clear HB'
  go_wp2_with fail
  go_ret
  exact ⟨rfl, HB⟩

end Go.Proofs.Yteaihpiilimkcaa.Udp
