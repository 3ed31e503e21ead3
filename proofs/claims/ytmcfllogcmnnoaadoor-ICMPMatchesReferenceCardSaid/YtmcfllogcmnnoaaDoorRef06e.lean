/-
  The reference of chapter 6: DecodeHeader and Decode at every string.
-/
import Derived.Test.YtmcfllogcmnnoaaDoorRef06d
namespace Go.Proofs.YtmcfllogcmnnoaaDoor.Ip
set_option maxRecDepth 100000
open Go.RowKit Go.Proofs.YtmcfllogcmnnoaaDoor.Wire

theorem and_fin : ∀ n : Fin 256, ((n.val : Int) % 2 == 1) = (bits .and .i64 (n.val : Int) 1 != 0) ∧ ((n.val : Int) / 2 % 2 == 1) = (bits .and .i64 (n.val : Int) 2 != 0) := by decide +kernel
theorem and_any (n : Int) (h0 : 0 ≤ n) (h1 : n < 256) : (n % 2 == 1) = (bits .and .i64 n 1 != 0) ∧ (n / 2 % 2 == 1) = (bits .and .i64 n 2 != 0) := by
  obtain ⟨k, rfl⟩ := Int.eq_ofNat_of_zero_le h0
  exact and_fin ⟨k, by omega⟩
theorem df_eq (s : ByteArray) : (nAt s 13 1 % 2 == 1) = dfOf s := (and_any _ (nAt_bd s 13 1).1 (by have := (nAt_bd s 13 1).2; simpa using this)).1
theorem mf_eq (s : ByteArray) : (nAt s 13 1 / 2 % 2 == 1) = mfOf s := (and_any _ (nAt_bd s 13 1).1 (by have := (nAt_bd s 13 1).2; simpa using this)).2
theorem hdr_ver (s : ByteArray) (f t pr ttl id : Int) (df mf : Bool) (off len : Int) (h : hdr f t pr ttl id df mf off len = s.data.toList.take 20) : nAt s 0 1 = 4 := by
  have h1 : (hdr f t pr ttl id df mf off len).take 1 = [4] := by
    unfold hdr front parts
    rw [show be 1 4 = [4] from by decide]; rfl
  rw [h, List.take_take] at h1
  unfold nAt bytesAt
  rw [List.drop_zero, show min 1 20 = 1 from rfl] at *
  rw [h1]; decide

set_option maxRecDepth 100000 in
set_option maxHeartbeats 1000000 in
theorem rDH_short (s : ByteArray) (w : World) (h : s.size < 20) :
    Calls Tryd.prog 46 #[.string s] w fun e w' => e = .returned (.tuple #[.agg #[.int .i64 0, .int .i64 0, .int .i64 0, .int .i64 0, .int .i64 0, .bool false, .bool false, .int .i64 0, .string ⟨#[]⟩], .int .i64 60]) ∧ Below w.heap.size w w' := by
  go_enter Tryd.func46, Tryd.ntmps46
  have HB := below_alloc (o := .cells #[.int .i64 0, .int .i64 0, .int .i64 0, .int .i64 0, .int .i64 0, .bool false, .bool false, .int .i64 0, .string ⟨#[]⟩] 31) (Below.refl w.heap.size w)
  have Hr := Lib.hid (alloc_new' w (.cells #[.int .i64 0, .int .i64 0, .int .i64 0, .int .i64 0, .int .i64 0, .bool false, .bool false, .int .i64 0, .string ⟨#[]⟩] 31) (w.heap.size) (by simp))
  go_wp2_with fail
  refine bodyPost_ret (v := .tuple #[.agg #[.int .i64 0, .int .i64 0, .int .i64 0, .int .i64 0, .int .i64 0, .bool false, .bool false, .int .i64 0, .string ⟨#[]⟩], .int .i64 60]) ?_ rfl ⟨rfl, HB⟩
  exact res_cell_tmp Tryd.results46 Hr.out rfl Tryd.underlying31 rfl (by kernel_rfl)
theorem rDecodeHeader_ok (s : ByteArray) (w : World) (hs : s.size ≤ 9223372036854775807) (h : dhOk s) :
    Calls Tryd.prog 46 #[.string s] w fun e w' => e = .returned (.tuple #[pkOf s, .int .i64 0]) ∧ Below w.heap.size w w' := by
  obtain ⟨⟨h20, -, hv, hh⟩, hl⟩ := h
  have b6 := nAt_bd s 13 1
  have b7 := nAt_bd s 14 2
  have b8 := nAt_bd s 16 2
  have hv2 := hv.2.2.1
  have hn : nAt s 16 2 ≤ 4000 := by omega
  refine rDH_ok s w (nAt s 1 4) (nAt s 5 4) (nAt s 9 1) (nAt s 10 1) (nAt s 11 2) (nAt s 13 1) (nAt s 14 2) (nAt s 16 2) (dfOf s) (mfOf s) h20 hs (Lib.hid rfl) (Lib.hid rfl) (Lib.hid rfl) (Lib.hid rfl) (Lib.hid rfl) (Lib.hid rfl) (Lib.hid rfl) (Lib.hid rfl) b6.1 (by have := b6.2; simp at this; omega) b7.1 (by have := b7.2; simp at this; omega) b8.1 (by have := b8.2; simp at this; omega) (df_eq s) (mf_eq s) hn (by omega) (Lib.hid fun X w hX => by
    have := rvalid_any (nAt s 1 4) (nAt s 5 4) (nAt s 9 1) (nAt s 10 1) (nAt s 11 2) (dfOf s) (mfOf s) (8 * nAt s 14 2) ⟨X.toArray⟩ w (by show X.length ≤ 1000000; omega)
    rwa [show ((⟨X.toArray⟩ : ByteArray).size : Int) = nAt s 16 2 from hX, show vlenB (nAt s 1 4) (nAt s 5 4) (nAt s 9 1) (nAt s 10 1) (nAt s 11 2) (dfOf s) (mfOf s) (8 * nAt s 14 2) (nAt s 16 2) = true from decide_eq_true hv] at this) (hdr (nAt s 1 4) (nAt s 5 4) (nAt s 9 1) (nAt s 10 1) (nAt s 11 2) (dfOf s) (mfOf s) (8 * nAt s 14 2) (nAt s 16 2)) (Lib.hid fun X w _ => rhead_any (nAt s 1 4) (nAt s 5 4) (nAt s 9 1) (nAt s 10 1) (nAt s 11 2) (dfOf s) (mfOf s) (8 * nAt s 14 2) ⟨X.toArray⟩ (nAt s 16 2) w b8.1 hv) (Lib.hid ?_)
  rw [take20]; exact hh
theorem rDecodeHeader_no (s : ByteArray) (w : World) (hs : s.size ≤ 9223372036854775807) (h : ¬ dhOk s) :
    Calls Tryd.prog 46 #[.string s] w fun e w' => e = .returned (.tuple #[pk0, .int .i64 60]) ∧ Below w.heap.size w w' := by
  rcases Nat.lt_or_ge s.size 20 with c | h20
  · exact rDH_short s w c
  have b6 := nAt_bd s 13 1
  have b7 := nAt_bd s 14 2
  have b8 := nAt_bd s 16 2
  rcases Int.lt_or_le 4000 (nAt s 16 2) with c | hn
  · exact rDH_big s w (nAt s 1 4) (nAt s 5 4) (nAt s 9 1) (nAt s 10 1) (nAt s 11 2) (nAt s 13 1) (nAt s 14 2) (nAt s 16 2) (dfOf s) (mfOf s) h20 hs (Lib.hid rfl) (Lib.hid rfl) (Lib.hid rfl) (Lib.hid rfl) (Lib.hid rfl) (Lib.hid rfl) (Lib.hid rfl) (Lib.hid rfl) b6.1 (by have := b6.2; simp at this; omega) b7.1 (by have := b7.2; simp at this; omega) b8.1 (by have := b8.2; simp at this; omega) (df_eq s) (mf_eq s) c
  rcases Int.lt_or_le (20 + nAt s 16 2) s.size with c | hl
  · exact rDH_long s w (nAt s 1 4) (nAt s 5 4) (nAt s 9 1) (nAt s 10 1) (nAt s 11 2) (nAt s 13 1) (nAt s 14 2) (nAt s 16 2) (dfOf s) (mfOf s) h20 hs (Lib.hid rfl) (Lib.hid rfl) (Lib.hid rfl) (Lib.hid rfl) (Lib.hid rfl) (Lib.hid rfl) (Lib.hid rfl) (Lib.hid rfl) b6.1 (by have := b6.2; simp at this; omega) b7.1 (by have := b7.2; simp at this; omega) b8.1 (by have := b8.2; simp at this; omega) (df_eq s) (mf_eq s) hn c
  by_cases hv : VLen (nAt s 1 4) (nAt s 5 4) (nAt s 9 1) (nAt s 10 1) (nAt s 11 2) (dfOf s) (mfOf s) (8 * nAt s 14 2) (nAt s 16 2)
  · refine rDH_hdr s w (nAt s 1 4) (nAt s 5 4) (nAt s 9 1) (nAt s 10 1) (nAt s 11 2) (nAt s 13 1) (nAt s 14 2) (nAt s 16 2) (dfOf s) (mfOf s) h20 hs (Lib.hid rfl) (Lib.hid rfl) (Lib.hid rfl) (Lib.hid rfl) (Lib.hid rfl) (Lib.hid rfl) (Lib.hid rfl) (Lib.hid rfl) b6.1 (by have := b6.2; simp at this; omega) b7.1 (by have := b7.2; simp at this; omega) b8.1 (by have := b8.2; simp at this; omega) (df_eq s) (mf_eq s) hn hl (Lib.hid fun X w hX => by
    have := rvalid_any (nAt s 1 4) (nAt s 5 4) (nAt s 9 1) (nAt s 10 1) (nAt s 11 2) (dfOf s) (mfOf s) (8 * nAt s 14 2) ⟨X.toArray⟩ w (by show X.length ≤ 1000000; omega)
    rwa [show ((⟨X.toArray⟩ : ByteArray).size : Int) = nAt s 16 2 from hX, show vlenB (nAt s 1 4) (nAt s 5 4) (nAt s 9 1) (nAt s 10 1) (nAt s 11 2) (dfOf s) (mfOf s) (8 * nAt s 14 2) (nAt s 16 2) = true from decide_eq_true hv] at this) (hdr (nAt s 1 4) (nAt s 5 4) (nAt s 9 1) (nAt s 10 1) (nAt s 11 2) (dfOf s) (mfOf s) (8 * nAt s 14 2) (nAt s 16 2)) (Lib.hid fun X w _ => rhead_any (nAt s 1 4) (nAt s 5 4) (nAt s 9 1) (nAt s 10 1) (nAt s 11 2) (dfOf s) (mfOf s) (8 * nAt s 14 2) ⟨X.toArray⟩ (nAt s 16 2) w b8.1 hv) ?_
    rw [take20]
    simp only [beq_eq_false_iff_ne]
    exact fun he => h ⟨⟨h20, hdr_ver s _ _ _ _ _ _ _ _ _ he, hv, he⟩, by omega⟩
  · exact rDH_inv s w (nAt s 1 4) (nAt s 5 4) (nAt s 9 1) (nAt s 10 1) (nAt s 11 2) (nAt s 13 1) (nAt s 14 2) (nAt s 16 2) (dfOf s) (mfOf s) h20 hs (Lib.hid rfl) (Lib.hid rfl) (Lib.hid rfl) (Lib.hid rfl) (Lib.hid rfl) (Lib.hid rfl) (Lib.hid rfl) (Lib.hid rfl) b6.1 (by have := b6.2; simp at this; omega) b7.1 (by have := b7.2; simp at this; omega) b8.1 (by have := b8.2; simp at this; omega) (df_eq s) (mf_eq s) hn hl (Lib.hid fun X w hX => by
    have := rvalid_any (nAt s 1 4) (nAt s 5 4) (nAt s 9 1) (nAt s 10 1) (nAt s 11 2) (dfOf s) (mfOf s) (8 * nAt s 14 2) ⟨X.toArray⟩ w (by show X.length ≤ 1000000; omega)
    rwa [show ((⟨X.toArray⟩ : ByteArray).size : Int) = nAt s 16 2 from hX, show vlenB (nAt s 1 4) (nAt s 5 4) (nAt s 9 1) (nAt s 10 1) (nAt s 11 2) (dfOf s) (mfOf s) (8 * nAt s 14 2) (nAt s 16 2) = false from decide_eq_false hv] at this)




end Go.Proofs.YtmcfllogcmnnoaaDoor.Ip
