/-
  Contracts of the decoder of package ip: (*decoder).header where the string is too short or of another version.
-/
import Derived.Test.YtpiohahfdekmhaaDoorIpDec2
import Derived.Deep.QuietTactic
import Derived.BigQuiet
namespace Go.Proofs.YtpiohahfdekmhaaDoor.Ip
set_option maxRecDepth 100000
open Go.RowKit Go.Proofs.YtpiohahfdekmhaaDoor.Wire

theorem only_drewN {a w : World} {row : Option Nat} (h : a.grownBy w row) (n : Nat) : a.grownBy (w.drewN n) row := ⟨h.os, h.tape, h.output, h.size, h.block⟩
theorem bytesAt_len_le (s : ByteArray) (a k : Nat) : (bytesAt s a k).length ≤ k := by unfold bytesAt; rw [List.length_take]; omega
theorem pow256 (k : Nat) (h : k ≤ 4) : (256 : Int) ^ k ≤ 4294967296 := by
  have : k = 0 ∨ k = 1 ∨ k = 2 ∨ k = 3 ∨ k = 4 := by omega
  rcases this with rfl | rfl | rfl | rfl | rfl <;> simp
theorem numAt_bd (s : ByteArray) (a k : Nat) (h : k ≤ 4) : 0 ≤ num (bytesAt s a k) ∧ num (bytesAt s a k) ≤ 4294967295 := by
  have h1 := num_bd (bytesAt s a k)
  have h2 := pow256 _ (Nat.le_trans (bytesAt_len_le s a k) h)
  omega
def NumPost (B : Nat) (s : ByteArray) (a k : Int) (sh : Bool) (v3 v4 v5 v6 v7 v8 v9 v10 v11 v12 : Value) (w : World) (e : Ending) (w' : World) : Prop :=
  ∃ (m a' : Int) (sh' : Bool), e = .returned (.int .i64 m) ∧ w'.heap[B]? = some (.cells #[.string s, .int .i64 a', .bool sh', v3, v4, v5, v6, v7, v8, v9, v10, v11, v12] 68) ∧ w.grownBy w' (some B) ∧ 0 ≤ m ∧ m ≤ 4294967295 ∧ 0 ≤ a' ∧ Hid (sh' = false → sh = false ∧ a' = a + k ∧ a' ≤ s.size)
theorem number_gen (B : Nat) (s : ByteArray) (a k : Int) (sh : Bool) (v3 v4 v5 v6 v7 v8 v9 v10 v11 v12 : Value) (w : World) (hB : w.heap[B]? = some (.cells #[.string s, .int .i64 a, .bool sh, v3, v4, v5, v6, v7, v8, v9, v10, v11, v12] 68)) (h0 : 0 ≤ a) (h1 : 1 ≤ k) (h4 : k ≤ 4) (hs : s.size ≤ 9223372036854775807) :
    Calls Tryd.prog 38 #[.pointer (some ⟨B, 0, none⟩), .int .i64 k] w (NumPost B s a k sh v3 v4 v5 v6 v7 v8 v9 v10 v11 v12 w) := by
  by_cases h : a + k ≤ s.size
  · refine (number_ok B s a k sh v3 v4 v5 v6 v7 v8 v9 v10 v11 v12 w hB h0 h1 h4 h hs).mono ?_
    rintro e w' ⟨rfl, h2, h3⟩
    have := numAt_bd s a.toNat k.toNat (by omega)
    exact ⟨_, _, _, rfl, h2, h3, this.1, this.2, by omega, Lib.hid fun hq => ⟨hq, rfl, h⟩⟩
  · refine (number_no B s a k sh v3 v4 v5 v6 v7 v8 v9 v10 v11 v12 w hB hs (by omega)).mono ?_
    rintro e w' ⟨rfl, h2, h3⟩
    exact ⟨_, _, _, rfl, h2, h3, by omega, by omega, by omega, Lib.hid fun hq => by cases hq⟩

set_option maxRecDepth 100000 in
set_option maxHeartbeats 4000000 in
theorem dheader_ver (B : Nat) (s : ByteArray) (w : World) (n0 : Int) (hB : w.heap[B]? = some (.cells #[.string s, .int .i64 0, .bool false, .int .i64 0, .int .i64 0, .int .i64 0, .int .i64 0, .int .i64 0, .bool false, .bool false, .int .i64 0, .string ⟨#[]⟩, .int .i64 0] 68)) (h1 : 1 ≤ s.size) (hs : s.size ≤ 9223372036854775807)
    (h0 : Hid (num (bytesAt s 0 1) = n0)) (hv : (n0 != 4) = true) :
    Calls Tryd.prog 24 #[.pointer (some ⟨B, 0, none⟩)] w fun e w' => e = .returned (.bool false) ∧ w.grownBy w' (some B) := by
  have Hd := Lib.hid hB
  clear hB
  go_enter Tryd.func24, Tryd.ntmps24
  go_wp2_with fail
  refine (number_at B s 0 1 1 n0 false (.int .i64 0) (.int .i64 0) (.int .i64 0) (.int .i64 0) (.int .i64 0) (.bool false) (.bool false) (.int .i64 0) (.string ⟨#[]⟩) (.int .i64 0) _ Hd.out (by omega) (by omega) (by omega) (by omega) (by omega) hs h0.out).mono ?_
  rintro e w1 ⟨rfl, _, hg⟩
  go_wp2_with fail
  go_ret
  exact ⟨rfl, hg⟩

set_option maxRecDepth 100000 in
set_option maxHeartbeats 4000000 in
theorem dheader_empty (B : Nat) (s : ByteArray) (w : World) (hB : w.heap[B]? = some (.cells #[.string s, .int .i64 0, .bool false, .int .i64 0, .int .i64 0, .int .i64 0, .int .i64 0, .int .i64 0, .bool false, .bool false, .int .i64 0, .string ⟨#[]⟩, .int .i64 0] 68)) (h1 : s.size = 0) :
    Calls Tryd.prog 24 #[.pointer (some ⟨B, 0, none⟩)] w fun e w' => e = .returned (.bool false) ∧ w.grownBy w' (some B) := by
  have HN := Lib.hid (number_no B s 0 1 false (.int .i64 0) (.int .i64 0) (.int .i64 0) (.int .i64 0) (.int .i64 0) (.bool false) (.bool false) (.int .i64 0) (.string ⟨#[]⟩) (.int .i64 0) w hB (by omega) (by omega))
  clear hB h1
  go_enter Tryd.func24, Tryd.ntmps24
  go_wp2_with fail
  refine HN.out.mono ?_
  rintro e w1 ⟨rfl, _, hg⟩
  go_wp2_with fail
  go_ret
  exact ⟨rfl, hg⟩

set_option maxRecDepth 100000 in
set_option maxHeartbeats 4000000 in
theorem dheader_short (B : Nat) (s : ByteArray) (w : World) (hB : w.heap[B]? = some (.cells #[.string s, .int .i64 0, .bool false, .int .i64 0, .int .i64 0, .int .i64 0, .int .i64 0, .int .i64 0, .bool false, .bool false, .int .i64 0, .string ⟨#[]⟩, .int .i64 0] 68)) (hl : 1 ≤ s.size) (h20 : s.size < 20) (hs : s.size ≤ 9223372036854775807)
    (h0 : Hid (num (bytesAt s 0 1) = 4)) :
    Calls Tryd.prog 24 #[.pointer (some ⟨B, 0, none⟩)] w fun e w' => e = .returned (.bool false) ∧ w.grownBy w' (some B) := by
  have Hd := Lib.hid hB; clear hB
  have HB := only_refl w B
  go_enter Tryd.func24, Tryd.ntmps24
  go_wp2_with fail
  refine (number_at B s 0 1 1 4 false (.int .i64 0) (.int .i64 0) (.int .i64 0) (.int .i64 0) (.int .i64 0) (.bool false) (.bool false) (.int .i64 0) (.string ⟨#[]⟩) (.int .i64 0) _ Hd.out (by omega) (by omega) (by omega) (by omega) (by omega) hs h0.out).mono ?_
  rintro e w0 ⟨rfl, Hd', hg⟩
  have HB' := only_trans HB hg; clear HB hg Hd; have HB := HB'; have Hd := Lib.hid Hd'; clear HB' Hd'
  go_wp2_with fail
  refine (number_gen B s 1 4 false (.int .i64 0) (.int .i64 0) (.int .i64 0) (.int .i64 0) (.int .i64 0) (.bool false) (.bool false) (.int .i64 0) (.string ⟨#[]⟩) (.int .i64 0) _ Hd.out (by omega) (by omega) (by omega) hs).mono ?_
  rintro e w1 ⟨m1, a1, sh1, rfl, Hd', hg, hm1, hM1, ha1, HQ1⟩
  have HB' := only_trans HB hg; clear HB hg Hd; have HB := HB'; have Hd := Lib.hid Hd'; clear HB' Hd'
  have qd3 := (cell_of_block (k := 3) Hd.out rfl).1; have zd3 := (cell_of_block (k := 3) Hd.out rfl).2
  go_wp2_with fail
  clear qd3 zd3
  have Hd' := Lib.hid (block_setCell (k := 3) (v := .int .i64 m1) Hd.out); clear Hd; have Hd := Hd'; clear Hd'
  have HB' := only_set HB (p := ⟨B, 3, none⟩) (.inl rfl) (.int .i64 m1); clear HB; have HB := HB'; clear HB'
  generalize (World.setCell w1 ⟨B, 3, none⟩ (.int .i64 m1)) = w1s at *
  have Hd' : Hid (w1s.heap[B]? = some (.cells #[.string s, .int .i64 a1, .bool sh1, .int .i64 m1, .int .i64 0, .int .i64 0, .int .i64 0, .int .i64 0, .bool false, .bool false, .int .i64 0, .string ⟨#[]⟩, .int .i64 0] 68)) := Lib.hid Hd.out; clear Hd; have Hd := Hd'; clear Hd'
  go_wp2_with fail
  refine (number_gen B s a1 4 sh1 (.int .i64 m1) (.int .i64 0) (.int .i64 0) (.int .i64 0) (.int .i64 0) (.bool false) (.bool false) (.int .i64 0) (.string ⟨#[]⟩) (.int .i64 0) _ Hd.out (by omega) (by omega) (by omega) hs).mono ?_
  rintro e w2 ⟨m2, a2, sh2, rfl, Hd', hg, hm2, hM2, ha2, HQ2⟩
  have HB' := only_trans HB hg; clear HB hg Hd; have HB := HB'; have Hd := Lib.hid Hd'; clear HB' Hd'
  have qd4 := (cell_of_block (k := 4) Hd.out rfl).1; have zd4 := (cell_of_block (k := 4) Hd.out rfl).2
  go_wp2_with fail
  clear qd4 zd4
  have Hd' := Lib.hid (block_setCell (k := 4) (v := .int .i64 m2) Hd.out); clear Hd; have Hd := Hd'; clear Hd'
  have HB' := only_set HB (p := ⟨B, 4, none⟩) (.inl rfl) (.int .i64 m2); clear HB; have HB := HB'; clear HB'
  generalize (World.setCell w2 ⟨B, 4, none⟩ (.int .i64 m2)) = w2s at *
  have Hd' : Hid (w2s.heap[B]? = some (.cells #[.string s, .int .i64 a2, .bool sh2, .int .i64 m1, .int .i64 m2, .int .i64 0, .int .i64 0, .int .i64 0, .bool false, .bool false, .int .i64 0, .string ⟨#[]⟩, .int .i64 0] 68)) := Lib.hid Hd.out; clear Hd; have Hd := Hd'; clear Hd'
  go_wp2_with fail
  refine (number_gen B s a2 1 sh2 (.int .i64 m1) (.int .i64 m2) (.int .i64 0) (.int .i64 0) (.int .i64 0) (.bool false) (.bool false) (.int .i64 0) (.string ⟨#[]⟩) (.int .i64 0) _ Hd.out (by omega) (by omega) (by omega) hs).mono ?_
  rintro e w3 ⟨m3, a3, sh3, rfl, Hd', hg, hm3, hM3, ha3, HQ3⟩
  have HB' := only_trans HB hg; clear HB hg Hd; have HB := HB'; have Hd := Lib.hid Hd'; clear HB' Hd'
  have qd5 := (cell_of_block (k := 5) Hd.out rfl).1; have zd5 := (cell_of_block (k := 5) Hd.out rfl).2
  go_wp2_with fail
  clear qd5 zd5
  have Hd' := Lib.hid (block_setCell (k := 5) (v := .int .i64 m3) Hd.out); clear Hd; have Hd := Hd'; clear Hd'
  have HB' := only_set HB (p := ⟨B, 5, none⟩) (.inl rfl) (.int .i64 m3); clear HB; have HB := HB'; clear HB'
  generalize (World.setCell w3 ⟨B, 5, none⟩ (.int .i64 m3)) = w3s at *
  have Hd' : Hid (w3s.heap[B]? = some (.cells #[.string s, .int .i64 a3, .bool sh3, .int .i64 m1, .int .i64 m2, .int .i64 m3, .int .i64 0, .int .i64 0, .bool false, .bool false, .int .i64 0, .string ⟨#[]⟩, .int .i64 0] 68)) := Lib.hid Hd.out; clear Hd; have Hd := Hd'; clear Hd'
  go_wp2_with fail
  refine (number_gen B s a3 1 sh3 (.int .i64 m1) (.int .i64 m2) (.int .i64 m3) (.int .i64 0) (.int .i64 0) (.bool false) (.bool false) (.int .i64 0) (.string ⟨#[]⟩) (.int .i64 0) _ Hd.out (by omega) (by omega) (by omega) hs).mono ?_
  rintro e w4 ⟨m4, a4, sh4, rfl, Hd', hg, hm4, hM4, ha4, HQ4⟩
  have HB' := only_trans HB hg; clear HB hg Hd; have HB := HB'; have Hd := Lib.hid Hd'; clear HB' Hd'
  have qd6 := (cell_of_block (k := 6) Hd.out rfl).1; have zd6 := (cell_of_block (k := 6) Hd.out rfl).2
  go_wp2_with fail
  clear qd6 zd6
  have Hd' := Lib.hid (block_setCell (k := 6) (v := .int .i64 m4) Hd.out); clear Hd; have Hd := Hd'; clear Hd'
  have HB' := only_set HB (p := ⟨B, 6, none⟩) (.inl rfl) (.int .i64 m4); clear HB; have HB := HB'; clear HB'
  generalize (World.setCell w4 ⟨B, 6, none⟩ (.int .i64 m4)) = w4s at *
  have Hd' : Hid (w4s.heap[B]? = some (.cells #[.string s, .int .i64 a4, .bool sh4, .int .i64 m1, .int .i64 m2, .int .i64 m3, .int .i64 m4, .int .i64 0, .bool false, .bool false, .int .i64 0, .string ⟨#[]⟩, .int .i64 0] 68)) := Lib.hid Hd.out; clear Hd; have Hd := Hd'; clear Hd'
  go_wp2_with fail
  refine (number_gen B s a4 2 sh4 (.int .i64 m1) (.int .i64 m2) (.int .i64 m3) (.int .i64 m4) (.int .i64 0) (.bool false) (.bool false) (.int .i64 0) (.string ⟨#[]⟩) (.int .i64 0) _ Hd.out (by omega) (by omega) (by omega) hs).mono ?_
  rintro e w5 ⟨m5, a5, sh5, rfl, Hd', hg, hm5, hM5, ha5, HQ5⟩
  have HB' := only_trans HB hg; clear HB hg Hd; have HB := HB'; have Hd := Lib.hid Hd'; clear HB' Hd'
  have qd7 := (cell_of_block (k := 7) Hd.out rfl).1; have zd7 := (cell_of_block (k := 7) Hd.out rfl).2
  go_wp2_with fail
  clear qd7 zd7
  have Hd' := Lib.hid (block_setCell (k := 7) (v := .int .i64 m5) Hd.out); clear Hd; have Hd := Hd'; clear Hd'
  have HB' := only_set HB (p := ⟨B, 7, none⟩) (.inl rfl) (.int .i64 m5); clear HB; have HB := HB'; clear HB'
  generalize (World.setCell w5 ⟨B, 7, none⟩ (.int .i64 m5)) = w5s at *
  have Hd' : Hid (w5s.heap[B]? = some (.cells #[.string s, .int .i64 a5, .bool sh5, .int .i64 m1, .int .i64 m2, .int .i64 m3, .int .i64 m4, .int .i64 m5, .bool false, .bool false, .int .i64 0, .string ⟨#[]⟩, .int .i64 0] 68)) := Lib.hid Hd.out; clear Hd; have Hd := Hd'; clear Hd'
  go_wp2_with fail
  refine (number_gen B s a5 1 sh5 (.int .i64 m1) (.int .i64 m2) (.int .i64 m3) (.int .i64 m4) (.int .i64 m5) (.bool false) (.bool false) (.int .i64 0) (.string ⟨#[]⟩) (.int .i64 0) _ Hd.out (by omega) (by omega) (by omega) hs).mono ?_
  rintro e w6 ⟨m6, a6, sh6, rfl, Hd', hg, hm6, hM6, ha6, HQ6⟩
  have HB' := only_trans HB hg; clear HB hg Hd; have HB := HB'; have Hd := Lib.hid Hd'; clear HB' Hd'
  have qd8 := (cell_of_block (k := 8) Hd.out rfl).1; have zd8 := (cell_of_block (k := 8) Hd.out rfl).2
  have qd9 := (cell_of_block (k := 9) Hd.out rfl).1; have zd9 := (cell_of_block (k := 9) Hd.out rfl).2
  go_wp2_with fail
  clear qd8 zd8 qd9 zd9
  have Hd' := Lib.hid (block_setCell (k := 8) (v := .bool (bits .and .i64 m6 1 != 0)) Hd.out); clear Hd; have Hd := Hd'; clear Hd'
  have HB' := only_set HB (p := ⟨B, 8, none⟩) (.inl rfl) (.bool (bits .and .i64 m6 1 != 0)); clear HB; have HB := HB'; clear HB'
  have Hd' := Lib.hid (block_setCell (k := 9) (v := .bool (bits .and .i64 m6 2 != 0)) Hd.out); clear Hd; have Hd := Hd'; clear Hd'
  have HB' := only_set HB (p := ⟨B, 9, none⟩) (.inl rfl) (.bool (bits .and .i64 m6 2 != 0)); clear HB; have HB := HB'; clear HB'
  generalize (World.setCell (World.setCell w6 ⟨B, 8, none⟩ (.bool (bits .and .i64 m6 1 != 0))) ⟨B, 9, none⟩ (.bool (bits .and .i64 m6 2 != 0))) = w6s at *
  have Hd' : Hid (w6s.heap[B]? = some (.cells #[.string s, .int .i64 a6, .bool sh6, .int .i64 m1, .int .i64 m2, .int .i64 m3, .int .i64 m4, .int .i64 m5, .bool (bits .and .i64 m6 1 != 0), .bool (bits .and .i64 m6 2 != 0), .int .i64 0, .string ⟨#[]⟩, .int .i64 0] 68)) := Lib.hid Hd.out; clear Hd; have Hd := Hd'; clear Hd'
  go_wp2_with fail
  refine (number_gen B s a6 2 sh6 (.int .i64 m1) (.int .i64 m2) (.int .i64 m3) (.int .i64 m4) (.int .i64 m5) (.bool (bits .and .i64 m6 1 != 0)) (.bool (bits .and .i64 m6 2 != 0)) (.int .i64 0) (.string ⟨#[]⟩) (.int .i64 0) _ Hd.out (by omega) (by omega) (by omega) hs).mono ?_
  rintro e w7 ⟨m7, a7, sh7, rfl, Hd', hg, hm7, hM7, ha7, HQ7⟩
  have HB' := only_trans HB hg; clear HB hg Hd; have HB := HB'; have Hd := Lib.hid Hd'; clear HB' Hd'
  have qd10 := (cell_of_block (k := 10) Hd.out rfl).1; have zd10 := (cell_of_block (k := 10) Hd.out rfl).2
  go_wp2_with fail
  clear qd10 zd10
  have Hd' := Lib.hid (block_setCell (k := 10) (v := .int .i64 (8 * m7)) Hd.out); clear Hd; have Hd := Hd'; clear Hd'
  have HB' := only_set HB (p := ⟨B, 10, none⟩) (.inl rfl) (.int .i64 (8 * m7)); clear HB; have HB := HB'; clear HB'
  generalize (World.setCell w7 ⟨B, 10, none⟩ (.int .i64 (8 * m7))) = w7s at *
  have Hd' : Hid (w7s.heap[B]? = some (.cells #[.string s, .int .i64 a7, .bool sh7, .int .i64 m1, .int .i64 m2, .int .i64 m3, .int .i64 m4, .int .i64 m5, .bool (bits .and .i64 m6 1 != 0), .bool (bits .and .i64 m6 2 != 0), .int .i64 (8 * m7), .string ⟨#[]⟩, .int .i64 0] 68)) := Lib.hid Hd.out; clear Hd; have Hd := Hd'; clear Hd'
  go_wp2_with fail
  refine (number_gen B s a7 2 sh7 (.int .i64 m1) (.int .i64 m2) (.int .i64 m3) (.int .i64 m4) (.int .i64 m5) (.bool (bits .and .i64 m6 1 != 0)) (.bool (bits .and .i64 m6 2 != 0)) (.int .i64 (8 * m7)) (.string ⟨#[]⟩) (.int .i64 0) _ Hd.out (by omega) (by omega) (by omega) hs).mono ?_
  rintro e w8 ⟨m8, a8, sh8, rfl, Hd', hg, hm8, hM8, ha8, HQ8⟩
  have HB' := only_trans HB hg; clear HB hg Hd; have HB := HB'; have Hd := Lib.hid Hd'; clear HB' Hd'
  have qd12 := (cell_of_block (k := 12) Hd.out rfl).1; have zd12 := (cell_of_block (k := 12) Hd.out rfl).2
  go_wp2_with fail
  clear qd12 zd12
  have Hd' := Lib.hid (block_setCell (k := 12) (v := .int .i64 m8) Hd.out); clear Hd; have Hd := Hd'; clear Hd'
  have HB' := only_set HB (p := ⟨B, 12, none⟩) (.inl rfl) (.int .i64 m8); clear HB; have HB := HB'; clear HB'
  generalize (World.setCell w8 ⟨B, 12, none⟩ (.int .i64 m8)) = w8s at *
  have Hd' : Hid (w8s.heap[B]? = some (.cells #[.string s, .int .i64 a8, .bool sh8, .int .i64 m1, .int .i64 m2, .int .i64 m3, .int .i64 m4, .int .i64 m5, .bool (bits .and .i64 m6 1 != 0), .bool (bits .and .i64 m6 2 != 0), .int .i64 (8 * m7), .string ⟨#[]⟩, .int .i64 m8] 68)) := Lib.hid Hd.out; clear Hd; have Hd := Hd'; clear Hd'
  go_wp2_with fail
  refine (number_gen B s a8 2 sh8 (.int .i64 m1) (.int .i64 m2) (.int .i64 m3) (.int .i64 m4) (.int .i64 m5) (.bool (bits .and .i64 m6 1 != 0)) (.bool (bits .and .i64 m6 2 != 0)) (.int .i64 (8 * m7)) (.string ⟨#[]⟩) (.int .i64 m8) _ Hd.out (by omega) (by omega) (by omega) hs).mono ?_
  rintro e w9 ⟨m9, a9, sh9, rfl, Hd', hg, hm9, hM9, ha9, HQ9⟩
  have HB' := only_trans HB hg; clear HB hg Hd; have HB := HB'; have Hd := Lib.hid Hd'; clear HB' Hd'
  have hsh : sh9 = true := by
    cases hq9 : sh9 with
    | true => rfl
    | false =>
      obtain ⟨q9, r9, t9⟩ := HQ9.out hq9
      obtain ⟨q8, r8, t8⟩ := HQ8.out q9
      obtain ⟨q7, r7, t7⟩ := HQ7.out q8
      obtain ⟨q6, r6, t6⟩ := HQ6.out q7
      obtain ⟨q5, r5, t5⟩ := HQ5.out q6
      obtain ⟨q4, r4, t4⟩ := HQ4.out q5
      obtain ⟨q3, r3, t3⟩ := HQ3.out q4
      obtain ⟨q2, r2, t2⟩ := HQ2.out q3
      obtain ⟨q1, r1, t1⟩ := HQ1.out q2
      omega
  subst hsh
  clear HQ1 HQ2 HQ3 HQ4 HQ5 HQ6 HQ7 HQ8 HQ9
  have qd2 := (cell_of_block (k := 2) Hd.out rfl).1
  go_wp2_with fail
  go_quiet (fail)
  go_wp2_with fail
  go_ret
  exact ⟨rfl, only_drewN HB _⟩

end Go.Proofs.YtpiohahfdekmhaaDoor.Ip
