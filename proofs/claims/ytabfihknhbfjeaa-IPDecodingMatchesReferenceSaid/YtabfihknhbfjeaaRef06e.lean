/-
  The reference of chapter 6: DecodeHeader and Decode at every string.
-/
import Derived.Test.YtabfihknhbfjeaaRef06d
namespace Go.Proofs.Ytabfihknhbfjeaa.Ip
open Go.RowKit Go.Proofs.Ytabfihknhbfjeaa.Wire

theorem and_fin : ∀ n : Fin 256, ((n.val : Int) % 2 == 1) = (bits .and .i64 (n.val : Int) 1 != 0) ∧ ((n.val : Int) / 2 % 2 == 1) = (bits .and .i64 (n.val : Int) 2 != 0) := by decide +kernel
theorem and_any (n : Int) (h0 : 0 ≤ n) (h1 : n < 256) : (n % 2 == 1) = (bits .and .i64 n 1 != 0) ∧ (n / 2 % 2 == 1) = (bits .and .i64 n 2 != 0) := by
  obtain ⟨k, rfl⟩ := Int.eq_ofNat_of_zero_le h0
  exact and_fin ⟨k, by omega⟩
theorem df_eq (s : ByteArray) : (nAt s 13 1 % 2 == 1) = dfOf s := (and_any _ (nAt_bd s 13 1).1 (by have := (nAt_bd s 13 1).2; simpa using this)).1
theorem mf_eq (s : ByteArray) : (nAt s 13 1 / 2 % 2 == 1) = mfOf s := (and_any _ (nAt_bd s 13 1).1 (by have := (nAt_bd s 13 1).2; simpa using this)).2
theorem hdr_ver (s : ByteArray) (f t pr ttl id : Int) (df mf : Bool) (off len : Int) (h : hdr f t pr ttl id df mf off len = s.data.toList.take 20) : nAt s 0 1 = 4 := by
  have h1 : (hdr f t pr ttl id df mf off len).take 1 = [4] := by
    unfold hdr front parts
    rw [show be 1 4 = [4] from by decide]; rfl
  rw [h, List.take_take] at h1
  unfold nAt bytesAt
  rw [List.drop_zero, show min 1 20 = 1 from rfl] at *
  rw [h1]; decide

set_option maxRecDepth 100000 in
set_option maxHeartbeats 1000000 in
theorem rDH_short (s : ByteArray) (w : World) (h : s.size < 20) :
    Calls Try.prog 22 #[.string s] w fun e w' => e = .returned (.tuple #[.agg #[.int .i64 0, .int .i64 0, .int .i64 0, .int .i64 0, .int .i64 0, .bool false, .bool false, .int .i64 0, .string ⟨#[]⟩], .int .i64 60]) ∧ Below w.heap.size w w' := by
  go_enter Try.func22, Try.ntmps22
  have HB := below_alloc (o := .cells #[.int .i64 0, .int .i64 0, .int .i64 0, .int .i64 0, .int .i64 0, .bool false, .bool false, .int .i64 0, .string ⟨#[]⟩] 26) (Below.refl w.heap.size w)
  have Hr := Lib.hid (alloc_new' w (.cells #[.int .i64 0, .int .i64 0, .int .i64 0, .int .i64 0, .int .i64 0, .bool false, .bool false, .int .i64 0, .string ⟨#[]⟩] 26) (w.heap.size) (by simp))
  go_wp2_with fail
  refine bodyPost_ret (v := .tuple #[.agg #[.int .i64 0, .int .i64 0, .int .i64 0, .int .i64 0, .int .i64 0, .bool false, .bool false, .int .i64 0, .string ⟨#[]⟩], .int .i64 60]) ?_ rfl ⟨rfl, HB⟩
  exact res_cell_tmp Try.results22 Hr.out rfl Try.underlying26 rfl (by kernel_rfl)
theorem rDecodeHeader_ok (s : ByteArray) (w : World) (hs : s.size ≤ 9223372036854775807) (h : dhOk s) :
    Calls Try.prog 22 #[.string s] w fun e w' => e = .returned (.tuple #[pkOf s, .int .i64 0]) ∧ Below w.heap.size w w' := by
  obtain ⟨⟨h20, -, hv, hh⟩, hl⟩ := h
  have b6 := nAt_bd s 13 1
  have b7 := nAt_bd s 14 2
  have b8 := nAt_bd s 16 2
  have hv2 := hv.2.2.1
  have hn : nAt s 16 2 ≤ 4000 := by omega
  refine rDH_ok s w (nAt s 1 4) (nAt s 5 4) (nAt s 9 1) (nAt s 10 1) (nAt s 11 2) (nAt s 13 1) (nAt s 14 2) (nAt s 16 2) (dfOf s) (mfOf s) h20 hs (Lib.hid rfl) (Lib.hid rfl) (Lib.hid rfl) (Lib.hid rfl) (Lib.hid rfl) (Lib.hid rfl) (Lib.hid rfl) (Lib.hid rfl) b6.1 (by have := b6.2; simp at this; omega) b7.1 (by have := b7.2; simp at this; omega) b8.1 (by have := b8.2; simp at this; omega) (df_eq s) (mf_eq s) hn (by omega) (Lib.hid fun X w hX => by
    have := rvalid_any (nAt s 1 4) (nAt s 5 4) (nAt s 9 1) (nAt s 10 1) (nAt s 11 2) (dfOf s) (mfOf s) (8 * nAt s 14 2) ⟨X.toArray⟩ w (by show X.length ≤ 1000000; omega)
    rwa [show ((⟨X.toArray⟩ : ByteArray).size : Int) = nAt s 16 2 from hX, show vlenB (nAt s 1 4) (nAt s 5 4) (nAt s 9 1) (nAt s 10 1) (nAt s 11 2) (dfOf s) (mfOf s) (8 * nAt s 14 2) (nAt s 16 2) = true from decide_eq_true hv] at this) (hdr (nAt s 1 4) (nAt s 5 4) (nAt s 9 1) (nAt s 10 1) (nAt s 11 2) (dfOf s) (mfOf s) (8 * nAt s 14 2) (nAt s 16 2)) (Lib.hid fun X w _ => rhead_any (nAt s 1 4) (nAt s 5 4) (nAt s 9 1) (nAt s 10 1) (nAt s 11 2) (dfOf s) (mfOf s) (8 * nAt s 14 2) ⟨X.toArray⟩ (nAt s 16 2) w b8.1 hv) (Lib.hid ?_)
  rw [take20]; exact hh
theorem rDecodeHeader_no (s : ByteArray) (w : World) (hs : s.size ≤ 9223372036854775807) (h : ¬ dhOk s) :
    Calls Try.prog 22 #[.string s] w fun e w' => e = .returned (.tuple #[pk0, .int .i64 60]) ∧ Below w.heap.size w w' := by
  rcases Nat.lt_or_ge s.size 20 with c | h20
  · exact rDH_short s w c
  have b6 := nAt_bd s 13 1
  have b7 := nAt_bd s 14 2
  have b8 := nAt_bd s 16 2
  rcases Int.lt_or_le 4000 (nAt s 16 2) with c | hn
  · exact rDH_big s w (nAt s 1 4) (nAt s 5 4) (nAt s 9 1) (nAt s 10 1) (nAt s 11 2) (nAt s 13 1) (nAt s 14 2) (nAt s 16 2) (dfOf s) (mfOf s) h20 hs (Lib.hid rfl) (Lib.hid rfl) (Lib.hid rfl) (Lib.hid rfl) (Lib.hid rfl) (Lib.hid rfl) (Lib.hid rfl) (Lib.hid rfl) b6.1 (by have := b6.2; simp at this; omega) b7.1 (by have := b7.2; simp at this; omega) b8.1 (by have := b8.2; simp at this; omega) (df_eq s) (mf_eq s) c
  rcases Int.lt_or_le (20 + nAt s 16 2) s.size with c | hl
  · exact rDH_long s w (nAt s 1 4) (nAt s 5 4) (nAt s 9 1) (nAt s 10 1) (nAt s 11 2) (nAt s 13 1) (nAt s 14 2) (nAt s 16 2) (dfOf s) (mfOf s) h20 hs (Lib.hid rfl) (Lib.hid rfl) (Lib.hid rfl) (Lib.hid rfl) (Lib.hid rfl) (Lib.hid rfl) (Lib.hid rfl) (Lib.hid rfl) b6.1 (by have := b6.2; simp at this; omega) b7.1 (by have := b7.2; simp at this; omega) b8.1 (by have := b8.2; simp at this; omega) (df_eq s) (mf_eq s) hn c
  by_cases hv : VLen (nAt s 1 4) (nAt s 5 4) (nAt s 9 1) (nAt s 10 1) (nAt s 11 2) (dfOf s) (mfOf s) (8 * nAt s 14 2) (nAt s 16 2)
  · refine rDH_hdr s w (nAt s 1 4) (nAt s 5 4) (nAt s 9 1) (nAt s 10 1) (nAt s 11 2) (nAt s 13 1) (nAt s 14 2) (nAt s 16 2) (dfOf s) (mfOf s) h20 hs (Lib.hid rfl) (Lib.hid rfl) (Lib.hid rfl) (Lib.hid rfl) (Lib.hid rfl) (Lib.hid rfl) (Lib.hid rfl) (Lib.hid rfl) b6.1 (by have := b6.2; simp at this; omega) b7.1 (by have := b7.2; simp at this; omega) b8.1 (by have := b8.2; simp at this; omega) (df_eq s) (mf_eq s) hn hl (Lib.hid fun X w hX => by
    have := rvalid_any (nAt s 1 4) (nAt s 5 4) (nAt s 9 1) (nAt s 10 1) (nAt s 11 2) (dfOf s) (mfOf s) (8 * nAt s 14 2) ⟨X.toArray⟩ w (by show X.length ≤ 1000000; omega)
    rwa [show ((⟨X.toArray⟩ : ByteArray).size : Int) = nAt s 16 2 from hX, show vlenB (nAt s 1 4) (nAt s 5 4) (nAt s 9 1) (nAt s 10 1) (nAt s 11 2) (dfOf s) (mfOf s) (8 * nAt s 14 2) (nAt s 16 2) = true from decide_eq_true hv] at this) (hdr (nAt s 1 4) (nAt s 5 4) (nAt s 9 1) (nAt s 10 1) (nAt s 11 2) (dfOf s) (mfOf s) (8 * nAt s 14 2) (nAt s 16 2)) (Lib.hid fun X w _ => rhead_any (nAt s 1 4) (nAt s 5 4) (nAt s 9 1) (nAt s 10 1) (nAt s 11 2) (dfOf s) (mfOf s) (8 * nAt s 14 2) ⟨X.toArray⟩ (nAt s 16 2) w b8.1 hv) ?_
    rw [take20]
    simp only [beq_eq_false_iff_ne]
    exact fun he => h ⟨⟨h20, hdr_ver s _ _ _ _ _ _ _ _ _ he, hv, he⟩, by omega⟩
  · exact rDH_inv s w (nAt s 1 4) (nAt s 5 4) (nAt s 9 1) (nAt s 10 1) (nAt s 11 2) (nAt s 13 1) (nAt s 14 2) (nAt s 16 2) (dfOf s) (mfOf s) h20 hs (Lib.hid rfl) (Lib.hid rfl) (Lib.hid rfl) (Lib.hid rfl) (Lib.hid rfl) (Lib.hid rfl) (Lib.hid rfl) (Lib.hid rfl) b6.1 (by have := b6.2; simp at this; omega) b7.1 (by have := b7.2; simp at this; omega) b8.1 (by have := b8.2; simp at this; omega) (df_eq s) (mf_eq s) hn hl (Lib.hid fun X w hX => by
    have := rvalid_any (nAt s 1 4) (nAt s 5 4) (nAt s 9 1) (nAt s 10 1) (nAt s 11 2) (dfOf s) (mfOf s) (8 * nAt s 14 2) ⟨X.toArray⟩ w (by show X.length ≤ 1000000; omega)
    rwa [show ((⟨X.toArray⟩ : ByteArray).size : Int) = nAt s 16 2 from hX, show vlenB (nAt s 1 4) (nAt s 5 4) (nAt s 9 1) (nAt s 10 1) (nAt s 11 2) (dfOf s) (mfOf s) (8 * nAt s 14 2) (nAt s 16 2) = false from decide_eq_false hv] at this)

set_option maxRecDepth 100000 in
set_option maxHeartbeats 2000000 in
theorem rDecode_bad (s : ByteArray) (w : World) (HD : Hid (∀ w, Calls Try.prog 22 #[.string s] w fun e w' => e = .returned (.tuple #[.agg #[.int .i64 0, .int .i64 0, .int .i64 0, .int .i64 0, .int .i64 0, .bool false, .bool false, .int .i64 0, .string ⟨#[]⟩], .int .i64 60]) ∧ Below w.heap.size w w')) :
    Calls Try.prog 20 #[.string s] w fun e w' => e = .returned (.tuple #[.agg #[.int .i64 0, .int .i64 0, .int .i64 0, .int .i64 0, .int .i64 0, .bool false, .bool false, .int .i64 0, .string ⟨#[]⟩], .int .i64 60]) ∧ Below w.heap.size w w' := by
  go_enter Try.func20, Try.ntmps20
  have HB := Below.refl w.heap.size w
  have Hr := Lib.hid (alloc_new' w (.cells #[.int .i64 0, .int .i64 0, .int .i64 0, .int .i64 0, .int .i64 0, .bool false, .bool false, .int .i64 0, .string ⟨#[]⟩] 26) (w.heap.size) (by simp))
  have HB' := below_alloc (o := .cells #[.int .i64 0, .int .i64 0, .int .i64 0, .int .i64 0, .int .i64 0, .bool false, .bool false, .int .i64 0, .string ⟨#[]⟩] 26) HB; clear HB; have HB := HB'; clear HB'
  go_wp2_with fail
  refine (HD.out _).mono ?_
  rintro e w1 ⟨rfl, hb⟩
  have Hr' := Lib.hid (bblock hb Hr.out); clear Hr; have Hr := Hr'; clear Hr'
  have HB' := below_call HB hb; clear HB hb; have HB := HB'; clear HB'; have hz1 := HB.size
  have lt_r_1 := blk_lt Hr.out
  have Sr := cells9 Hr.out
  obtain ⟨⟨qr0, qr1, qr2, qr3, qr4, qr5, qr6, qr7, qr8⟩, zr0, zr1, zr2, zr3, zr4, zr5, zr6, zr7, zr8⟩ := Sr
  have lt_r := blk_lt Hr.out
  go_wp2_with fail
  clear qr0 zr0 qr1 zr1 qr2 zr2 qr3 zr3 qr4 zr4 qr5 zr5 qr6 zr6 qr7 zr7 qr8 zr8
  have Hr' := Lib.hid (cells_eq (b := #[.int .i64 0, .int .i64 0, .int .i64 0, .int .i64 0, .int .i64 0, .bool false, .bool false, .int .i64 0, .string ⟨#[]⟩]) (block_setCell (k := 0) (v := .int .i64 0) Hr.out) rfl); clear Hr; have Hr := Hr'; clear Hr'
  have HB' := Below.setCell HB (p := ⟨w.heap.size, 0, none⟩) (by first | (simp; done) | (simp; omega)) (.int .i64 0); clear HB; have HB := HB'; clear HB'
  have Hr' := Lib.hid (cells_eq (b := #[.int .i64 0, .int .i64 0, .int .i64 0, .int .i64 0, .int .i64 0, .bool false, .bool false, .int .i64 0, .string ⟨#[]⟩]) (block_setCell (k := 1) (v := .int .i64 0) Hr.out) rfl); clear Hr; have Hr := Hr'; clear Hr'
  have HB' := Below.setCell HB (p := ⟨w.heap.size, 1, none⟩) (by first | (simp; done) | (simp; omega)) (.int .i64 0); clear HB; have HB := HB'; clear HB'
  have Hr' := Lib.hid (cells_eq (b := #[.int .i64 0, .int .i64 0, .int .i64 0, .int .i64 0, .int .i64 0, .bool false, .bool false, .int .i64 0, .string ⟨#[]⟩]) (block_setCell (k := 2) (v := .int .i64 0) Hr.out) rfl); clear Hr; have Hr := Hr'; clear Hr'
  have HB' := Below.setCell HB (p := ⟨w.heap.size, 2, none⟩) (by first | (simp; done) | (simp; omega)) (.int .i64 0); clear HB; have HB := HB'; clear HB'
  have Hr' := Lib.hid (cells_eq (b := #[.int .i64 0, .int .i64 0, .int .i64 0, .int .i64 0, .int .i64 0, .bool false, .bool false, .int .i64 0, .string ⟨#[]⟩]) (block_setCell (k := 3) (v := .int .i64 0) Hr.out) rfl); clear Hr; have Hr := Hr'; clear Hr'
  have HB' := Below.setCell HB (p := ⟨w.heap.size, 3, none⟩) (by first | (simp; done) | (simp; omega)) (.int .i64 0); clear HB; have HB := HB'; clear HB'
  have Hr' := Lib.hid (cells_eq (b := #[.int .i64 0, .int .i64 0, .int .i64 0, .int .i64 0, .int .i64 0, .bool false, .bool false, .int .i64 0, .string ⟨#[]⟩]) (block_setCell (k := 4) (v := .int .i64 0) Hr.out) rfl); clear Hr; have Hr := Hr'; clear Hr'
  have HB' := Below.setCell HB (p := ⟨w.heap.size, 4, none⟩) (by first | (simp; done) | (simp; omega)) (.int .i64 0); clear HB; have HB := HB'; clear HB'
  have Hr' := Lib.hid (cells_eq (b := #[.int .i64 0, .int .i64 0, .int .i64 0, .int .i64 0, .int .i64 0, .bool false, .bool false, .int .i64 0, .string ⟨#[]⟩]) (block_setCell (k := 5) (v := .bool false) Hr.out) rfl); clear Hr; have Hr := Hr'; clear Hr'
  have HB' := Below.setCell HB (p := ⟨w.heap.size, 5, none⟩) (by first | (simp; done) | (simp; omega)) (.bool false); clear HB; have HB := HB'; clear HB'
  have Hr' := Lib.hid (cells_eq (b := #[.int .i64 0, .int .i64 0, .int .i64 0, .int .i64 0, .int .i64 0, .bool false, .bool false, .int .i64 0, .string ⟨#[]⟩]) (block_setCell (k := 6) (v := .bool false) Hr.out) rfl); clear Hr; have Hr := Hr'; clear Hr'
  have HB' := Below.setCell HB (p := ⟨w.heap.size, 6, none⟩) (by first | (simp; done) | (simp; omega)) (.bool false); clear HB; have HB := HB'; clear HB'
  have Hr' := Lib.hid (cells_eq (b := #[.int .i64 0, .int .i64 0, .int .i64 0, .int .i64 0, .int .i64 0, .bool false, .bool false, .int .i64 0, .string ⟨#[]⟩]) (block_setCell (k := 7) (v := .int .i64 0) Hr.out) rfl); clear Hr; have Hr := Hr'; clear Hr'
  have HB' := Below.setCell HB (p := ⟨w.heap.size, 7, none⟩) (by first | (simp; done) | (simp; omega)) (.int .i64 0); clear HB; have HB := HB'; clear HB'
  have Hr' := Lib.hid (cells_eq (b := #[.int .i64 0, .int .i64 0, .int .i64 0, .int .i64 0, .int .i64 0, .bool false, .bool false, .int .i64 0, .string ⟨#[]⟩]) (block_setCell (k := 8) (v := .string ⟨#[]⟩) Hr.out) rfl); clear Hr; have Hr := Hr'; clear Hr'
  have HB' := Below.setCell HB (p := ⟨w.heap.size, 8, none⟩) (by first | (simp; done) | (simp; omega)) (.string ⟨#[]⟩); clear HB; have HB := HB'; clear HB'
  have Hp := Lib.hid (alloc_new' (World.setCell (World.setCell (World.setCell (World.setCell (World.setCell (World.setCell (World.setCell (World.setCell (World.setCell w1 ⟨w.heap.size, 0, none⟩ (.int .i64 0)) ⟨w.heap.size, 1, none⟩ (.int .i64 0)) ⟨w.heap.size, 2, none⟩ (.int .i64 0)) ⟨w.heap.size, 3, none⟩ (.int .i64 0)) ⟨w.heap.size, 4, none⟩ (.int .i64 0)) ⟨w.heap.size, 5, none⟩ (.bool false)) ⟨w.heap.size, 6, none⟩ (.bool false)) ⟨w.heap.size, 7, none⟩ (.int .i64 0)) ⟨w.heap.size, 8, none⟩ (.string ⟨#[]⟩)) (.cells #[.int .i64 0, .int .i64 0, .int .i64 0, .int .i64 0, .int .i64 0, .bool false, .bool false, .int .i64 0, .string ⟨#[]⟩] 26) (w1.heap.size) (by simp))
  have Hr' := Lib.hid (block_alloc Hr.out (.cells #[.int .i64 0, .int .i64 0, .int .i64 0, .int .i64 0, .int .i64 0, .bool false, .bool false, .int .i64 0, .string ⟨#[]⟩] 26)); clear Hr; have Hr := Hr'; clear Hr'
  have HB' := below_alloc (o := .cells #[.int .i64 0, .int .i64 0, .int .i64 0, .int .i64 0, .int .i64 0, .bool false, .bool false, .int .i64 0, .string ⟨#[]⟩] 26) HB; clear HB; have HB := HB'; clear HB'
  refine bodyPost_ret (v := .tuple #[.agg #[.int .i64 0, .int .i64 0, .int .i64 0, .int .i64 0, .int .i64 0, .bool false, .bool false, .int .i64 0, .string ⟨#[]⟩], .int .i64 60]) ?_ rfl ⟨rfl, HB⟩
  exact res_cell_tmp Try.results20 Hr.out rfl Try.underlying26 rfl (by kernel_rfl)

set_option maxRecDepth 100000 in
set_option maxHeartbeats 2000000 in
theorem rDecode_other (s : ByteArray) (w : World) (n1 n2 n3 n4 n5 : Int) (df mf : Bool) (n7 : Int) (t : ByteArray) (n8 : Int) (h20 : 20 ≤ s.size) (hs : s.size ≤ 9223372036854775807) (hn8 : Hid (nAt s 16 2 = n8)) (h8 : 0 ≤ n8) (h8b : n8 ≤ 65535) (hl : (s.size : Int) ≠ 20 + n8) (HD : Hid (∀ w, Calls Try.prog 22 #[.string s] w fun e w' => e = .returned (.tuple #[.agg #[.int .i64 n1, .int .i64 n2, .int .i64 n3, .int .i64 n4, .int .i64 n5, .bool df, .bool mf, .int .i64 n7, .string t], .int .i64 0]) ∧ Below w.heap.size w w')) :
    Calls Try.prog 20 #[.string s] w fun e w' => e = .returned (.tuple #[.agg #[.int .i64 0, .int .i64 0, .int .i64 0, .int .i64 0, .int .i64 0, .bool false, .bool false, .int .i64 0, .string ⟨#[]⟩], .int .i64 60]) ∧ Below w.heap.size w w' := by
  go_enter Try.func20, Try.ntmps20
  have HB := Below.refl w.heap.size w
  have Hr := Lib.hid (alloc_new' w (.cells #[.int .i64 0, .int .i64 0, .int .i64 0, .int .i64 0, .int .i64 0, .bool false, .bool false, .int .i64 0, .string ⟨#[]⟩] 26) (w.heap.size) (by simp))
  have HB' := below_alloc (o := .cells #[.int .i64 0, .int .i64 0, .int .i64 0, .int .i64 0, .int .i64 0, .bool false, .bool false, .int .i64 0, .string ⟨#[]⟩] 26) HB; clear HB; have HB := HB'; clear HB'
  go_wp2_with fail
  refine (HD.out _).mono ?_
  rintro e w1 ⟨rfl, hb⟩
  have Hr' := Lib.hid (bblock hb Hr.out); clear Hr; have Hr := Hr'; clear Hr'
  have HB' := below_call HB hb; clear HB hb; have HB := HB'; clear HB'; have hz1 := HB.size
  have lt_r_1 := blk_lt Hr.out
  have Sr := cells9 Hr.out
  obtain ⟨⟨qr0, qr1, qr2, qr3, qr4, qr5, qr6, qr7, qr8⟩, zr0, zr1, zr2, zr3, zr4, zr5, zr6, zr7, zr8⟩ := Sr
  have lt_r := blk_lt Hr.out
  go_wp2_with fail
  refine (rget_any s 16 2 n8 _ (by omega) (by omega) hs (by omega) hn8.out).mono ?_
  rintro e w' ⟨rfl, rfl⟩
  go_wp2_with fail
  clear qr0 zr0 qr1 zr1 qr2 zr2 qr3 zr3 qr4 zr4 qr5 zr5 qr6 zr6 qr7 zr7 qr8 zr8
  have Hr' := Lib.hid (cells_eq (b := #[.int .i64 0, .int .i64 0, .int .i64 0, .int .i64 0, .int .i64 0, .bool false, .bool false, .int .i64 0, .string ⟨#[]⟩]) (block_setCell (k := 0) (v := .int .i64 0) Hr.out) rfl); clear Hr; have Hr := Hr'; clear Hr'
  have HB' := Below.setCell HB (p := ⟨w.heap.size, 0, none⟩) (by first | (simp; done) | (simp; omega)) (.int .i64 0); clear HB; have HB := HB'; clear HB'
  have Hr' := Lib.hid (cells_eq (b := #[.int .i64 0, .int .i64 0, .int .i64 0, .int .i64 0, .int .i64 0, .bool false, .bool false, .int .i64 0, .string ⟨#[]⟩]) (block_setCell (k := 1) (v := .int .i64 0) Hr.out) rfl); clear Hr; have Hr := Hr'; clear Hr'
  have HB' := Below.setCell HB (p := ⟨w.heap.size, 1, none⟩) (by first | (simp; done) | (simp; omega)) (.int .i64 0); clear HB; have HB := HB'; clear HB'
  have Hr' := Lib.hid (cells_eq (b := #[.int .i64 0, .int .i64 0, .int .i64 0, .int .i64 0, .int .i64 0, .bool false, .bool false, .int .i64 0, .string ⟨#[]⟩]) (block_setCell (k := 2) (v := .int .i64 0) Hr.out) rfl); clear Hr; have Hr := Hr'; clear Hr'
  have HB' := Below.setCell HB (p := ⟨w.heap.size, 2, none⟩) (by first | (simp; done) | (simp; omega)) (.int .i64 0); clear HB; have HB := HB'; clear HB'
  have Hr' := Lib.hid (cells_eq (b := #[.int .i64 0, .int .i64 0, .int .i64 0, .int .i64 0, .int .i64 0, .bool false, .bool false, .int .i64 0, .string ⟨#[]⟩]) (block_setCell (k := 3) (v := .int .i64 0) Hr.out) rfl); clear Hr; have Hr := Hr'; clear Hr'
  have HB' := Below.setCell HB (p := ⟨w.heap.size, 3, none⟩) (by first | (simp; done) | (simp; omega)) (.int .i64 0); clear HB; have HB := HB'; clear HB'
  have Hr' := Lib.hid (cells_eq (b := #[.int .i64 0, .int .i64 0, .int .i64 0, .int .i64 0, .int .i64 0, .bool false, .bool false, .int .i64 0, .string ⟨#[]⟩]) (block_setCell (k := 4) (v := .int .i64 0) Hr.out) rfl); clear Hr; have Hr := Hr'; clear Hr'
  have HB' := Below.setCell HB (p := ⟨w.heap.size, 4, none⟩) (by first | (simp; done) | (simp; omega)) (.int .i64 0); clear HB; have HB := HB'; clear HB'
  have Hr' := Lib.hid (cells_eq (b := #[.int .i64 0, .int .i64 0, .int .i64 0, .int .i64 0, .int .i64 0, .bool false, .bool false, .int .i64 0, .string ⟨#[]⟩]) (block_setCell (k := 5) (v := .bool false) Hr.out) rfl); clear Hr; have Hr := Hr'; clear Hr'
  have HB' := Below.setCell HB (p := ⟨w.heap.size, 5, none⟩) (by first | (simp; done) | (simp; omega)) (.bool false); clear HB; have HB := HB'; clear HB'
  have Hr' := Lib.hid (cells_eq (b := #[.int .i64 0, .int .i64 0, .int .i64 0, .int .i64 0, .int .i64 0, .bool false, .bool false, .int .i64 0, .string ⟨#[]⟩]) (block_setCell (k := 6) (v := .bool false) Hr.out) rfl); clear Hr; have Hr := Hr'; clear Hr'
  have HB' := Below.setCell HB (p := ⟨w.heap.size, 6, none⟩) (by first | (simp; done) | (simp; omega)) (.bool false); clear HB; have HB := HB'; clear HB'
  have Hr' := Lib.hid (cells_eq (b := #[.int .i64 0, .int .i64 0, .int .i64 0, .int .i64 0, .int .i64 0, .bool false, .bool false, .int .i64 0, .string ⟨#[]⟩]) (block_setCell (k := 7) (v := .int .i64 0) Hr.out) rfl); clear Hr; have Hr := Hr'; clear Hr'
  have HB' := Below.setCell HB (p := ⟨w.heap.size, 7, none⟩) (by first | (simp; done) | (simp; omega)) (.int .i64 0); clear HB; have HB := HB'; clear HB'
  have Hr' := Lib.hid (cells_eq (b := #[.int .i64 0, .int .i64 0, .int .i64 0, .int .i64 0, .int .i64 0, .bool false, .bool false, .int .i64 0, .string ⟨#[]⟩]) (block_setCell (k := 8) (v := .string ⟨#[]⟩) Hr.out) rfl); clear Hr; have Hr := Hr'; clear Hr'
  have HB' := Below.setCell HB (p := ⟨w.heap.size, 8, none⟩) (by first | (simp; done) | (simp; omega)) (.string ⟨#[]⟩); clear HB; have HB := HB'; clear HB'
  have Hp := Lib.hid (alloc_new' (World.setCell (World.setCell (World.setCell (World.setCell (World.setCell (World.setCell (World.setCell (World.setCell (World.setCell w1 ⟨w.heap.size, 0, none⟩ (.int .i64 0)) ⟨w.heap.size, 1, none⟩ (.int .i64 0)) ⟨w.heap.size, 2, none⟩ (.int .i64 0)) ⟨w.heap.size, 3, none⟩ (.int .i64 0)) ⟨w.heap.size, 4, none⟩ (.int .i64 0)) ⟨w.heap.size, 5, none⟩ (.bool false)) ⟨w.heap.size, 6, none⟩ (.bool false)) ⟨w.heap.size, 7, none⟩ (.int .i64 0)) ⟨w.heap.size, 8, none⟩ (.string ⟨#[]⟩)) (.cells #[.int .i64 n1, .int .i64 n2, .int .i64 n3, .int .i64 n4, .int .i64 n5, .bool df, .bool mf, .int .i64 n7, .string t] 26) (w1.heap.size) (by simp))
  have Hr' := Lib.hid (block_alloc Hr.out (.cells #[.int .i64 n1, .int .i64 n2, .int .i64 n3, .int .i64 n4, .int .i64 n5, .bool df, .bool mf, .int .i64 n7, .string t] 26)); clear Hr; have Hr := Hr'; clear Hr'
  have HB' := below_alloc (o := .cells #[.int .i64 n1, .int .i64 n2, .int .i64 n3, .int .i64 n4, .int .i64 n5, .bool df, .bool mf, .int .i64 n7, .string t] 26) HB; clear HB; have HB := HB'; clear HB'
  refine bodyPost_ret (v := .tuple #[.agg #[.int .i64 0, .int .i64 0, .int .i64 0, .int .i64 0, .int .i64 0, .bool false, .bool false, .int .i64 0, .string ⟨#[]⟩], .int .i64 60]) ?_ rfl ⟨rfl, HB⟩
  exact res_cell_tmp Try.results20 Hr.out rfl Try.underlying26 rfl (by kernel_rfl)

set_option maxRecDepth 100000 in
set_option maxHeartbeats 2000000 in
theorem rDecode_good (s : ByteArray) (w : World) (n1 n2 n3 n4 n5 : Int) (df mf : Bool) (n7 : Int) (t : ByteArray) (n8 : Int) (h20 : 20 ≤ s.size) (hs : s.size ≤ 9223372036854775807) (hn8 : Hid (nAt s 16 2 = n8)) (h8 : 0 ≤ n8) (h8b : n8 ≤ 65535) (hl : Hid ((s.size : Int) = 20 + n8)) (HD : Hid (∀ w, Calls Try.prog 22 #[.string s] w fun e w' => e = .returned (.tuple #[.agg #[.int .i64 n1, .int .i64 n2, .int .i64 n3, .int .i64 n4, .int .i64 n5, .bool df, .bool mf, .int .i64 n7, .string t], .int .i64 0]) ∧ Below w.heap.size w w')) :
    Calls Try.prog 20 #[.string s] w fun e w' => e = .returned (.tuple #[.agg #[.int .i64 n1, .int .i64 n2, .int .i64 n3, .int .i64 n4, .int .i64 n5, .bool df, .bool mf, .int .i64 n7, .string t], .int .i64 0]) ∧ Below w.heap.size w w' := by
  go_enter Try.func20, Try.ntmps20
  have HB := Below.refl w.heap.size w
  have Hr := Lib.hid (alloc_new' w (.cells #[.int .i64 0, .int .i64 0, .int .i64 0, .int .i64 0, .int .i64 0, .bool false, .bool false, .int .i64 0, .string ⟨#[]⟩] 26) (w.heap.size) (by simp))
  have HB' := below_alloc (o := .cells #[.int .i64 0, .int .i64 0, .int .i64 0, .int .i64 0, .int .i64 0, .bool false, .bool false, .int .i64 0, .string ⟨#[]⟩] 26) HB; clear HB; have HB := HB'; clear HB'
  go_wp2_with fail
  refine (HD.out _).mono ?_
  rintro e w1 ⟨rfl, hb⟩
  have Hr' := Lib.hid (bblock hb Hr.out); clear Hr; have Hr := Hr'; clear Hr'
  have HB' := below_call HB hb; clear HB hb; have HB := HB'; clear HB'; have hz1 := HB.size
  have lt_r_1 := blk_lt Hr.out
  have Sr := cells9 Hr.out
  obtain ⟨⟨qr0, qr1, qr2, qr3, qr4, qr5, qr6, qr7, qr8⟩, zr0, zr1, zr2, zr3, zr4, zr5, zr6, zr7, zr8⟩ := Sr
  have lt_r := blk_lt Hr.out
  go_wp2_with fail
  have hbl : ((s.size : Int) != 20 + n8) = false := bne_eq_false_iff_eq.2 hl.out
  refine (rget_any s 16 2 n8 _ (by omega) (by omega) hs (by omega) hn8.out).mono ?_
  rintro e w' ⟨rfl, rfl⟩
  go_wp2_with fail
  clear qr0 zr0 qr1 zr1 qr2 zr2 qr3 zr3 qr4 zr4 qr5 zr5 qr6 zr6 qr7 zr7 qr8 zr8
  have Hr' := Lib.hid (cells_eq (b := #[.int .i64 n1, .int .i64 0, .int .i64 0, .int .i64 0, .int .i64 0, .bool false, .bool false, .int .i64 0, .string ⟨#[]⟩]) (block_setCell (k := 0) (v := .int .i64 n1) Hr.out) rfl); clear Hr; have Hr := Hr'; clear Hr'
  have HB' := Below.setCell HB (p := ⟨w.heap.size, 0, none⟩) (by first | (simp; done) | (simp; omega)) (.int .i64 n1); clear HB; have HB := HB'; clear HB'
  have Hr' := Lib.hid (cells_eq (b := #[.int .i64 n1, .int .i64 n2, .int .i64 0, .int .i64 0, .int .i64 0, .bool false, .bool false, .int .i64 0, .string ⟨#[]⟩]) (block_setCell (k := 1) (v := .int .i64 n2) Hr.out) rfl); clear Hr; have Hr := Hr'; clear Hr'
  have HB' := Below.setCell HB (p := ⟨w.heap.size, 1, none⟩) (by first | (simp; done) | (simp; omega)) (.int .i64 n2); clear HB; have HB := HB'; clear HB'
  have Hr' := Lib.hid (cells_eq (b := #[.int .i64 n1, .int .i64 n2, .int .i64 n3, .int .i64 0, .int .i64 0, .bool false, .bool false, .int .i64 0, .string ⟨#[]⟩]) (block_setCell (k := 2) (v := .int .i64 n3) Hr.out) rfl); clear Hr; have Hr := Hr'; clear Hr'
  have HB' := Below.setCell HB (p := ⟨w.heap.size, 2, none⟩) (by first | (simp; done) | (simp; omega)) (.int .i64 n3); clear HB; have HB := HB'; clear HB'
  have Hr' := Lib.hid (cells_eq (b := #[.int .i64 n1, .int .i64 n2, .int .i64 n3, .int .i64 n4, .int .i64 0, .bool false, .bool false, .int .i64 0, .string ⟨#[]⟩]) (block_setCell (k := 3) (v := .int .i64 n4) Hr.out) rfl); clear Hr; have Hr := Hr'; clear Hr'
  have HB' := Below.setCell HB (p := ⟨w.heap.size, 3, none⟩) (by first | (simp; done) | (simp; omega)) (.int .i64 n4); clear HB; have HB := HB'; clear HB'
  have Hr' := Lib.hid (cells_eq (b := #[.int .i64 n1, .int .i64 n2, .int .i64 n3, .int .i64 n4, .int .i64 n5, .bool false, .bool false, .int .i64 0, .string ⟨#[]⟩]) (block_setCell (k := 4) (v := .int .i64 n5) Hr.out) rfl); clear Hr; have Hr := Hr'; clear Hr'
  have HB' := Below.setCell HB (p := ⟨w.heap.size, 4, none⟩) (by first | (simp; done) | (simp; omega)) (.int .i64 n5); clear HB; have HB := HB'; clear HB'
  have Hr' := Lib.hid (cells_eq (b := #[.int .i64 n1, .int .i64 n2, .int .i64 n3, .int .i64 n4, .int .i64 n5, .bool df, .bool false, .int .i64 0, .string ⟨#[]⟩]) (block_setCell (k := 5) (v := .bool df) Hr.out) rfl); clear Hr; have Hr := Hr'; clear Hr'
  have HB' := Below.setCell HB (p := ⟨w.heap.size, 5, none⟩) (by first | (simp; done) | (simp; omega)) (.bool df); clear HB; have HB := HB'; clear HB'
  have Hr' := Lib.hid (cells_eq (b := #[.int .i64 n1, .int .i64 n2, .int .i64 n3, .int .i64 n4, .int .i64 n5, .bool df, .bool mf, .int .i64 0, .string ⟨#[]⟩]) (block_setCell (k := 6) (v := .bool mf) Hr.out) rfl); clear Hr; have Hr := Hr'; clear Hr'
  have HB' := Below.setCell HB (p := ⟨w.heap.size, 6, none⟩) (by first | (simp; done) | (simp; omega)) (.bool mf); clear HB; have HB := HB'; clear HB'
  have Hr' := Lib.hid (cells_eq (b := #[.int .i64 n1, .int .i64 n2, .int .i64 n3, .int .i64 n4, .int .i64 n5, .bool df, .bool mf, .int .i64 n7, .string ⟨#[]⟩]) (block_setCell (k := 7) (v := .int .i64 n7) Hr.out) rfl); clear Hr; have Hr := Hr'; clear Hr'
  have HB' := Below.setCell HB (p := ⟨w.heap.size, 7, none⟩) (by first | (simp; done) | (simp; omega)) (.int .i64 n7); clear HB; have HB := HB'; clear HB'
  have Hr' := Lib.hid (cells_eq (b := #[.int .i64 n1, .int .i64 n2, .int .i64 n3, .int .i64 n4, .int .i64 n5, .bool df, .bool mf, .int .i64 n7, .string t]) (block_setCell (k := 8) (v := .string t) Hr.out) rfl); clear Hr; have Hr := Hr'; clear Hr'
  have HB' := Below.setCell HB (p := ⟨w.heap.size, 8, none⟩) (by first | (simp; done) | (simp; omega)) (.string t); clear HB; have HB := HB'; clear HB'
  have Hp := Lib.hid (alloc_new' (World.setCell (World.setCell (World.setCell (World.setCell (World.setCell (World.setCell (World.setCell (World.setCell (World.setCell w1 ⟨w.heap.size, 0, none⟩ (.int .i64 n1)) ⟨w.heap.size, 1, none⟩ (.int .i64 n2)) ⟨w.heap.size, 2, none⟩ (.int .i64 n3)) ⟨w.heap.size, 3, none⟩ (.int .i64 n4)) ⟨w.heap.size, 4, none⟩ (.int .i64 n5)) ⟨w.heap.size, 5, none⟩ (.bool df)) ⟨w.heap.size, 6, none⟩ (.bool mf)) ⟨w.heap.size, 7, none⟩ (.int .i64 n7)) ⟨w.heap.size, 8, none⟩ (.string t)) (.cells #[.int .i64 n1, .int .i64 n2, .int .i64 n3, .int .i64 n4, .int .i64 n5, .bool df, .bool mf, .int .i64 n7, .string t] 26) (w1.heap.size) (by simp))
  have Hr' := Lib.hid (block_alloc Hr.out (.cells #[.int .i64 n1, .int .i64 n2, .int .i64 n3, .int .i64 n4, .int .i64 n5, .bool df, .bool mf, .int .i64 n7, .string t] 26)); clear Hr; have Hr := Hr'; clear Hr'
  have HB' := below_alloc (o := .cells #[.int .i64 n1, .int .i64 n2, .int .i64 n3, .int .i64 n4, .int .i64 n5, .bool df, .bool mf, .int .i64 n7, .string t] 26) HB; clear HB; have HB := HB'; clear HB'
  refine bodyPost_ret (v := .tuple #[.agg #[.int .i64 n1, .int .i64 n2, .int .i64 n3, .int .i64 n4, .int .i64 n5, .bool df, .bool mf, .int .i64 n7, .string t], .int .i64 0]) ?_ rfl ⟨rfl, HB⟩
  exact res_cell_tmp Try.results20 Hr.out rfl Try.underlying26 rfl (by kernel_rfl)

theorem rDecode_ok (s : ByteArray) (w : World) (hs : s.size ≤ 9223372036854775807) (h : dcOk s) :
    Calls Try.prog 20 #[.string s] w fun e w' => e = .returned (.tuple #[pkOf s, .int .i64 0]) ∧ Below w.heap.size w w' := by
  have b8 := nAt_bd s 16 2
  have h20 := h.1.1
  exact rDecode_good s w _ _ _ _ _ _ _ _ _ (nAt s 16 2) h20 hs (Lib.hid rfl) b8.1 (by have := b8.2; simp at this; omega) (Lib.hid (by have := h.2; omega)) (Lib.hid fun w => rDecodeHeader_ok s w hs ⟨h.1, by have := h.2; omega⟩)
theorem rDecode_no (s : ByteArray) (w : World) (hs : s.size ≤ 9223372036854775807) (h : ¬ dcOk s) :
    Calls Try.prog 20 #[.string s] w fun e w' => e = .returned (.tuple #[pk0, .int .i64 60]) ∧ Below w.heap.size w w' := by
  by_cases hd : dhOk s
  · have b8 := nAt_bd s 16 2
    have h20 := hd.1.1
    exact rDecode_other s w _ _ _ _ _ _ _ _ _ (nAt s 16 2) h20 hs (Lib.hid rfl) b8.1 (by have := b8.2; simp at this; omega) (fun e => h ⟨hd.1, by omega⟩) (Lib.hid fun w => rDecodeHeader_ok s w hs hd)
  · exact rDecode_bad s w (Lib.hid fun w => rDecodeHeader_no s w hs hd)
end Go.Proofs.Ytabfihknhbfjeaa.Ip
