/-
  Contracts of the decoder of package ip: (*decoder).header at a string of at least 20 bytes.
-/
import Derived.Test.YtpiohahfdekmhaaDoorIpDec
namespace Go.Proofs.YtpiohahfdekmhaaDoor.Ip
set_option maxRecDepth 100000
open Go.RowKit Go.Proofs.YtpiohahfdekmhaaDoor.Wire

theorem number_at (B : Nat) (s : ByteArray) (a a' k n : Int) (sh : Bool) (v3 v4 v5 v6 v7 v8 v9 v10 v11 v12 : Value) (w : World) (hB : w.heap[B]? = some (.cells #[.string s, .int .i64 a, .bool sh, v3, v4, v5, v6, v7, v8, v9, v10, v11, v12] 68)) (h0 : 0 ≤ a) (h1 : 1 ≤ k) (h4 : k ≤ 4) (ha : a + k = a') (hk : a' ≤ s.size) (hs : s.size ≤ 9223372036854775807) (hn : num (bytesAt s a.toNat k.toNat) = n) :
    Calls Tryd.prog 38 #[.pointer (some ⟨B, 0, none⟩), .int .i64 k] w fun e w' => e = .returned (.int .i64 n) ∧ w'.heap[B]? = some (.cells #[.string s, .int .i64 a', .bool sh, v3, v4, v5, v6, v7, v8, v9, v10, v11, v12] 68) ∧ w.grownBy w' (some B) := by
  subst ha hn
  exact number_ok B s a k sh v3 v4 v5 v6 v7 v8 v9 v10 v11 v12 w hB h0 h1 h4 hk hs

set_option maxRecDepth 100000 in
set_option maxHeartbeats 4000000 in
theorem dheader_long (B : Nat) (s : ByteArray) (w : World) (n0 n1 n2 n3 n4 n5 n6 n7 n8 n9 : Int) (df mf res : Bool) (R : List UInt8) (hB : w.heap[B]? = some (.cells #[.string s, .int .i64 0, .bool false, .int .i64 0, .int .i64 0, .int .i64 0, .int .i64 0, .int .i64 0, .bool false, .bool false, .int .i64 0, .string ⟨#[]⟩, .int .i64 0] 68)) (h20 : 20 ≤ s.size) (hs : s.size ≤ 9223372036854775807)
    (h0 : Hid (num (bytesAt s 0 1) = n0)) (h1 : Hid (num (bytesAt s 1 4) = n1)) (h2 : Hid (num (bytesAt s 5 4) = n2)) (h3 : Hid (num (bytesAt s 9 1) = n3)) (h4 : Hid (num (bytesAt s 10 1) = n4)) (h5 : Hid (num (bytesAt s 11 2) = n5)) (h6 : Hid (num (bytesAt s 13 1) = n6)) (h7 : Hid (num (bytesAt s 14 2) = n7)) (h8 : Hid (num (bytesAt s 16 2) = n8)) (h9 : Hid (num (bytesAt s 18 2) = n9)) (hv : (n0 != 4) = false) (hdf : (bits .and .i64 n6 1 != 0) = df) (hmf : (bits .and .i64 n6 2 != 0) = mf) (hn7 : 0 ≤ n7) (hn7' : n7 ≤ 65535)
    (HH : Hid (∀ w, Calls Tryd.prog 15 #[.agg #[.int .i64 n1, .int .i64 n2, .int .i64 n3, .int .i64 n4, .int .i64 n5, .bool df, .bool mf, .int .i64 (8 * n7), .string ⟨#[]⟩], .int .i64 n8] w fun e w' => e = .returned (.string ⟨R.toArray⟩) ∧ Below w.heap.size w w')) (hcmp : (R == (s.extract 0 20).toList) = res) :
    Calls Tryd.prog 24 #[.pointer (some ⟨B, 0, none⟩)] w fun e w' => e = .returned (.bool res) ∧ w'.heap[B]? = some (.cells #[.string s, .int .i64 20, .bool false, .int .i64 n1, .int .i64 n2, .int .i64 n3, .int .i64 n4, .int .i64 n5, .bool df, .bool mf, .int .i64 (8 * n7), .string ⟨#[]⟩, .int .i64 n8] 68) ∧ w.grownBy w' (some B) := by
  have h20i : (20 : Int) ≤ (s.size : Int) := by omega
  have Hd := Lib.hid hB; clear hB
  have HB := only_refl w B
  go_enter Tryd.func24, Tryd.ntmps24
  go_wp2_with fail
  refine (number_at B s 0 1 1 n0 false (.int .i64 0) (.int .i64 0) (.int .i64 0) (.int .i64 0) (.int .i64 0) (.bool false) (.bool false) (.int .i64 0) (.string ⟨#[]⟩) (.int .i64 0) _ Hd.out (by omega) (by omega) (by omega) (by omega) (by omega) hs h0.out).mono ?_
  rintro e w0 ⟨rfl, Hd', hg⟩
  have HB' := only_trans HB hg; clear HB hg Hd; have HB := HB'; have Hd := Lib.hid Hd'; clear HB' Hd'
  go_wp2_with fail
  refine (number_at B s 1 5 4 n1 false (.int .i64 0) (.int .i64 0) (.int .i64 0) (.int .i64 0) (.int .i64 0) (.bool false) (.bool false) (.int .i64 0) (.string ⟨#[]⟩) (.int .i64 0) _ Hd.out (by omega) (by omega) (by omega) (by omega) (by omega) hs h1.out).mono ?_
  rintro e w1 ⟨rfl, Hd', hg⟩
  have HB' := only_trans HB hg; clear HB hg Hd; have HB := HB'; have Hd := Lib.hid Hd'; clear HB' Hd'
  have qd3 := (cell_of_block (k := 3) Hd.out rfl).1; have zd3 := (cell_of_block (k := 3) Hd.out rfl).2
  go_wp2_with fail
  clear qd3 zd3
  have Hd' := Lib.hid (block_setCell (k := 3) (v := .int .i64 n1) Hd.out); clear Hd; have Hd := Hd'; clear Hd'
  have HB' := only_set HB (p := ⟨B, 3, none⟩) (.inl rfl) (.int .i64 n1); clear HB; have HB := HB'; clear HB'
  generalize (World.setCell w1 ⟨B, 3, none⟩ (.int .i64 n1)) = w1s at *
  have Hd' : Hid (w1s.heap[B]? = some (.cells #[.string s, .int .i64 5, .bool false, .int .i64 n1, .int .i64 0, .int .i64 0, .int .i64 0, .int .i64 0, .bool false, .bool false, .int .i64 0, .string ⟨#[]⟩, .int .i64 0] 68)) := Lib.hid Hd.out; clear Hd; have Hd := Hd'; clear Hd'
  go_wp2_with fail
  refine (number_at B s 5 9 4 n2 false (.int .i64 n1) (.int .i64 0) (.int .i64 0) (.int .i64 0) (.int .i64 0) (.bool false) (.bool false) (.int .i64 0) (.string ⟨#[]⟩) (.int .i64 0) _ Hd.out (by omega) (by omega) (by omega) (by omega) (by omega) hs h2.out).mono ?_
  rintro e w2 ⟨rfl, Hd', hg⟩
  have HB' := only_trans HB hg; clear HB hg Hd; have HB := HB'; have Hd := Lib.hid Hd'; clear HB' Hd'
  have qd4 := (cell_of_block (k := 4) Hd.out rfl).1; have zd4 := (cell_of_block (k := 4) Hd.out rfl).2
  go_wp2_with fail
  clear qd4 zd4
  have Hd' := Lib.hid (block_setCell (k := 4) (v := .int .i64 n2) Hd.out); clear Hd; have Hd := Hd'; clear Hd'
  have HB' := only_set HB (p := ⟨B, 4, none⟩) (.inl rfl) (.int .i64 n2); clear HB; have HB := HB'; clear HB'
  generalize (World.setCell w2 ⟨B, 4, none⟩ (.int .i64 n2)) = w2s at *
  have Hd' : Hid (w2s.heap[B]? = some (.cells #[.string s, .int .i64 9, .bool false, .int .i64 n1, .int .i64 n2, .int .i64 0, .int .i64 0, .int .i64 0, .bool false, .bool false, .int .i64 0, .string ⟨#[]⟩, .int .i64 0] 68)) := Lib.hid Hd.out; clear Hd; have Hd := Hd'; clear Hd'
  go_wp2_with fail
  refine (number_at B s 9 10 1 n3 false (.int .i64 n1) (.int .i64 n2) (.int .i64 0) (.int .i64 0) (.int .i64 0) (.bool false) (.bool false) (.int .i64 0) (.string ⟨#[]⟩) (.int .i64 0) _ Hd.out (by omega) (by omega) (by omega) (by omega) (by omega) hs h3.out).mono ?_
  rintro e w3 ⟨rfl, Hd', hg⟩
  have HB' := only_trans HB hg; clear HB hg Hd; have HB := HB'; have Hd := Lib.hid Hd'; clear HB' Hd'
  have qd5 := (cell_of_block (k := 5) Hd.out rfl).1; have zd5 := (cell_of_block (k := 5) Hd.out rfl).2
  go_wp2_with fail
  clear qd5 zd5
  have Hd' := Lib.hid (block_setCell (k := 5) (v := .int .i64 n3) Hd.out); clear Hd; have Hd := Hd'; clear Hd'
  have HB' := only_set HB (p := ⟨B, 5, none⟩) (.inl rfl) (.int .i64 n3); clear HB; have HB := HB'; clear HB'
  generalize (World.setCell w3 ⟨B, 5, none⟩ (.int .i64 n3)) = w3s at *
  have Hd' : Hid (w3s.heap[B]? = some (.cells #[.string s, .int .i64 10, .bool false, .int .i64 n1, .int .i64 n2, .int .i64 n3, .int .i64 0, .int .i64 0, .bool false, .bool false, .int .i64 0, .string ⟨#[]⟩, .int .i64 0] 68)) := Lib.hid Hd.out; clear Hd; have Hd := Hd'; clear Hd'
  go_wp2_with fail
  refine (number_at B s 10 11 1 n4 false (.int .i64 n1) (.int .i64 n2) (.int .i64 n3) (.int .i64 0) (.int .i64 0) (.bool false) (.bool false) (.int .i64 0) (.string ⟨#[]⟩) (.int .i64 0) _ Hd.out (by omega) (by omega) (by omega) (by omega) (by omega) hs h4.out).mono ?_
  rintro e w4 ⟨rfl, Hd', hg⟩
  have HB' := only_trans HB hg; clear HB hg Hd; have HB := HB'; have Hd := Lib.hid Hd'; clear HB' Hd'
  have qd6 := (cell_of_block (k := 6) Hd.out rfl).1; have zd6 := (cell_of_block (k := 6) Hd.out rfl).2
  go_wp2_with fail
  clear qd6 zd6
  have Hd' := Lib.hid (block_setCell (k := 6) (v := .int .i64 n4) Hd.out); clear Hd; have Hd := Hd'; clear Hd'
  have HB' := only_set HB (p := ⟨B, 6, none⟩) (.inl rfl) (.int .i64 n4); clear HB; have HB := HB'; clear HB'
  generalize (World.setCell w4 ⟨B, 6, none⟩ (.int .i64 n4)) = w4s at *
  have Hd' : Hid (w4s.heap[B]? = some (.cells #[.string s, .int .i64 11, .bool false, .int .i64 n1, .int .i64 n2, .int .i64 n3, .int .i64 n4, .int .i64 0, .bool false, .bool false, .int .i64 0, .string ⟨#[]⟩, .int .i64 0] 68)) := Lib.hid Hd.out; clear Hd; have Hd := Hd'; clear Hd'
  go_wp2_with fail
  refine (number_at B s 11 13 2 n5 false (.int .i64 n1) (.int .i64 n2) (.int .i64 n3) (.int .i64 n4) (.int .i64 0) (.bool false) (.bool false) (.int .i64 0) (.string ⟨#[]⟩) (.int .i64 0) _ Hd.out (by omega) (by omega) (by omega) (by omega) (by omega) hs h5.out).mono ?_
  rintro e w5 ⟨rfl, Hd', hg⟩
  have HB' := only_trans HB hg; clear HB hg Hd; have HB := HB'; have Hd := Lib.hid Hd'; clear HB' Hd'
  have qd7 := (cell_of_block (k := 7) Hd.out rfl).1; have zd7 := (cell_of_block (k := 7) Hd.out rfl).2
  go_wp2_with fail
  clear qd7 zd7
  have Hd' := Lib.hid (block_setCell (k := 7) (v := .int .i64 n5) Hd.out); clear Hd; have Hd := Hd'; clear Hd'
  have HB' := only_set HB (p := ⟨B, 7, none⟩) (.inl rfl) (.int .i64 n5); clear HB; have HB := HB'; clear HB'
  generalize (World.setCell w5 ⟨B, 7, none⟩ (.int .i64 n5)) = w5s at *
  have Hd' : Hid (w5s.heap[B]? = some (.cells #[.string s, .int .i64 13, .bool false, .int .i64 n1, .int .i64 n2, .int .i64 n3, .int .i64 n4, .int .i64 n5, .bool false, .bool false, .int .i64 0, .string ⟨#[]⟩, .int .i64 0] 68)) := Lib.hid Hd.out; clear Hd; have Hd := Hd'; clear Hd'
  go_wp2_with fail
  refine (number_at B s 13 14 1 n6 false (.int .i64 n1) (.int .i64 n2) (.int .i64 n3) (.int .i64 n4) (.int .i64 n5) (.bool false) (.bool false) (.int .i64 0) (.string ⟨#[]⟩) (.int .i64 0) _ Hd.out (by omega) (by omega) (by omega) (by omega) (by omega) hs h6.out).mono ?_
  rintro e w6 ⟨rfl, Hd', hg⟩
  have HB' := only_trans HB hg; clear HB hg Hd; have HB := HB'; have Hd := Lib.hid Hd'; clear HB' Hd'
  have qd8 := (cell_of_block (k := 8) Hd.out rfl).1; have zd8 := (cell_of_block (k := 8) Hd.out rfl).2
  have qd9 := (cell_of_block (k := 9) Hd.out rfl).1; have zd9 := (cell_of_block (k := 9) Hd.out rfl).2
  go_wp2_with fail
  clear qd8 zd8 qd9 zd9
  have Hd' := Lib.hid (block_setCell (k := 8) (v := .bool df) Hd.out); clear Hd; have Hd := Hd'; clear Hd'
  have HB' := only_set HB (p := ⟨B, 8, none⟩) (.inl rfl) (.bool df); clear HB; have HB := HB'; clear HB'
  have Hd' := Lib.hid (block_setCell (k := 9) (v := .bool mf) Hd.out); clear Hd; have Hd := Hd'; clear Hd'
  have HB' := only_set HB (p := ⟨B, 9, none⟩) (.inl rfl) (.bool mf); clear HB; have HB := HB'; clear HB'
  generalize (World.setCell (World.setCell w6 ⟨B, 8, none⟩ (.bool df)) ⟨B, 9, none⟩ (.bool mf)) = w6s at *
  have Hd' : Hid (w6s.heap[B]? = some (.cells #[.string s, .int .i64 14, .bool false, .int .i64 n1, .int .i64 n2, .int .i64 n3, .int .i64 n4, .int .i64 n5, .bool df, .bool mf, .int .i64 0, .string ⟨#[]⟩, .int .i64 0] 68)) := Lib.hid Hd.out; clear Hd; have Hd := Hd'; clear Hd'
  go_wp2_with fail
  refine (number_at B s 14 16 2 n7 false (.int .i64 n1) (.int .i64 n2) (.int .i64 n3) (.int .i64 n4) (.int .i64 n5) (.bool df) (.bool mf) (.int .i64 0) (.string ⟨#[]⟩) (.int .i64 0) _ Hd.out (by omega) (by omega) (by omega) (by omega) (by omega) hs h7.out).mono ?_
  rintro e w7 ⟨rfl, Hd', hg⟩
  have HB' := only_trans HB hg; clear HB hg Hd; have HB := HB'; have Hd := Lib.hid Hd'; clear HB' Hd'
  have qd10 := (cell_of_block (k := 10) Hd.out rfl).1; have zd10 := (cell_of_block (k := 10) Hd.out rfl).2
  go_wp2_with fail
  clear qd10 zd10
  have Hd' := Lib.hid (block_setCell (k := 10) (v := .int .i64 (8 * n7)) Hd.out); clear Hd; have Hd := Hd'; clear Hd'
  have HB' := only_set HB (p := ⟨B, 10, none⟩) (.inl rfl) (.int .i64 (8 * n7)); clear HB; have HB := HB'; clear HB'
  generalize (World.setCell w7 ⟨B, 10, none⟩ (.int .i64 (8 * n7))) = w7s at *
  have Hd' : Hid (w7s.heap[B]? = some (.cells #[.string s, .int .i64 16, .bool false, .int .i64 n1, .int .i64 n2, .int .i64 n3, .int .i64 n4, .int .i64 n5, .bool df, .bool mf, .int .i64 (8 * n7), .string ⟨#[]⟩, .int .i64 0] 68)) := Lib.hid Hd.out; clear Hd; have Hd := Hd'; clear Hd'
  go_wp2_with fail
  refine (number_at B s 16 18 2 n8 false (.int .i64 n1) (.int .i64 n2) (.int .i64 n3) (.int .i64 n4) (.int .i64 n5) (.bool df) (.bool mf) (.int .i64 (8 * n7)) (.string ⟨#[]⟩) (.int .i64 0) _ Hd.out (by omega) (by omega) (by omega) (by omega) (by omega) hs h8.out).mono ?_
  rintro e w8 ⟨rfl, Hd', hg⟩
  have HB' := only_trans HB hg; clear HB hg Hd; have HB := HB'; have Hd := Lib.hid Hd'; clear HB' Hd'
  have qd12 := (cell_of_block (k := 12) Hd.out rfl).1; have zd12 := (cell_of_block (k := 12) Hd.out rfl).2
  go_wp2_with fail
  clear qd12 zd12
  have Hd' := Lib.hid (block_setCell (k := 12) (v := .int .i64 n8) Hd.out); clear Hd; have Hd := Hd'; clear Hd'
  have HB' := only_set HB (p := ⟨B, 12, none⟩) (.inl rfl) (.int .i64 n8); clear HB; have HB := HB'; clear HB'
  generalize (World.setCell w8 ⟨B, 12, none⟩ (.int .i64 n8)) = w8s at *
  have Hd' : Hid (w8s.heap[B]? = some (.cells #[.string s, .int .i64 18, .bool false, .int .i64 n1, .int .i64 n2, .int .i64 n3, .int .i64 n4, .int .i64 n5, .bool df, .bool mf, .int .i64 (8 * n7), .string ⟨#[]⟩, .int .i64 n8] 68)) := Lib.hid Hd.out; clear Hd; have Hd := Hd'; clear Hd'
  go_wp2_with fail
  refine (number_at B s 18 20 2 n9 false (.int .i64 n1) (.int .i64 n2) (.int .i64 n3) (.int .i64 n4) (.int .i64 n5) (.bool df) (.bool mf) (.int .i64 (8 * n7)) (.string ⟨#[]⟩) (.int .i64 n8) _ Hd.out (by omega) (by omega) (by omega) (by omega) (by omega) hs h9.out).mono ?_
  rintro e w9 ⟨rfl, Hd', hg⟩
  have HB' := only_trans HB hg; clear HB hg Hd; have HB := HB'; have Hd := Lib.hid Hd'; clear HB' Hd'
  go_wp2_with fail
  go_region_held3 (fun w' => w'.cell? ⟨B, 0, none⟩ = some (.string s) ∧ w'.cell? ⟨B, 2, none⟩ = some (.bool false) ∧ w'.cell? ⟨B, 3, none⟩ = some (.int .i64 n1) ∧ w'.cell? ⟨B, 4, none⟩ = some (.int .i64 n2) ∧ w'.cell? ⟨B, 5, none⟩ = some (.int .i64 n3) ∧ w'.cell? ⟨B, 6, none⟩ = some (.int .i64 n4) ∧ w'.cell? ⟨B, 7, none⟩ = some (.int .i64 n5) ∧ w'.cell? ⟨B, 8, none⟩ = some (.bool df) ∧ w'.cell? ⟨B, 9, none⟩ = some (.bool mf) ∧ w'.cell? ⟨B, 10, none⟩ = some (.int .i64 (8 * n7)) ∧ w'.cell? ⟨B, 11, none⟩ = some (.string ⟨#[]⟩) ∧ w'.cell? ⟨B, 12, none⟩ = some (.int .i64 n8) ∧ w'.heap[B]? = some (.cells #[.string s, .int .i64 20, .bool false, .int .i64 n1, .int .i64 n2, .int .i64 n3, .int .i64 n4, .int .i64 n5, .bool df, .bool mf, .int .i64 (8 * n7), .string ⟨#[]⟩, .int .i64 n8] 68) ∧ World.grownBy w w' (some (B))) (first | exact ⟨(cell_of_block Hd.out rfl).1, (cell_of_block Hd.out rfl).1, (cell_of_block Hd.out rfl).1, (cell_of_block Hd.out rfl).1, (cell_of_block Hd.out rfl).1, (cell_of_block Hd.out rfl).1, (cell_of_block Hd.out rfl).1, (cell_of_block Hd.out rfl).1, (cell_of_block Hd.out rfl).1, (cell_of_block Hd.out rfl).1, (cell_of_block Hd.out rfl).1, (cell_of_block Hd.out rfl).1, Hd.out, only_drew HB⟩ | (go_split_ands; exact ⟨by assumption, by assumption, by assumption, by assumption, by assumption, by assumption, by assumption, by assumption, by assumption, by assumption, by assumption, by assumption, by assumption, by assumption⟩) | (go_split_ands; exact ⟨bcell (by assumption) (by assumption), bcell (by assumption) (by assumption), bcell (by assumption) (by assumption), bcell (by assumption) (by assumption), bcell (by assumption) (by assumption), bcell (by assumption) (by assumption), bcell (by assumption) (by assumption), bcell (by assumption) (by assumption), bcell (by assumption) (by assumption), bcell (by assumption) (by assumption), bcell (by assumption) (by assumption), bcell (by assumption) (by assumption), bblock (by assumption) (by assumption), only_call (by assumption) (by assumption)⟩) | (go_split_ands; exact ⟨cell_alloc' _ (by assumption), cell_alloc' _ (by assumption), cell_alloc' _ (by assumption), cell_alloc' _ (by assumption), cell_alloc' _ (by assumption), cell_alloc' _ (by assumption), cell_alloc' _ (by assumption), cell_alloc' _ (by assumption), cell_alloc' _ (by assumption), cell_alloc' _ (by assumption), cell_alloc' _ (by assumption), cell_alloc' _ (by assumption), block_alloc (by assumption) _, only_alloc (by assumption)⟩))
    (first | (go_at_call 15; refine (HH.out _).mono ?_; rintro e wh ⟨rfl, hbh⟩))
  rename_i hH
  obtain ⟨k0_, k1_, k2_, k3_, k4_, k5_, k6_, k7_, k8_, k9_, k10_, k11_, k12_, HB'⟩ := hH
  clear Hd; have Hd := Lib.hid k12_
  clear k0_ k1_ k2_ k3_ k4_ k5_ k6_ k7_ k8_ k9_ k10_ k11_ k12_
  clear HB; have HB := HB'; clear HB'
  have hz := HB.size
  go_wp2_with fail
  go_ret
  exact ⟨rfl, Hd.out, HB⟩

end Go.Proofs.YtpiohahfdekmhaaDoor.Ip
