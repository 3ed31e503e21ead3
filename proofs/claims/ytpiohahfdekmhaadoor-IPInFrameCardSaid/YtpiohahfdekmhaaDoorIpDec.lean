/-
  Contracts of the reader of package ip: number, rest.
-/
import Derived.Test.YtpiohahfdekmhaaDoorIpHead
import Derived.Deep.RegionHeld3
import Derived.Deep.RegionWith
namespace Go.Proofs.YtpiohahfdekmhaaDoor.Ip
set_option maxRecDepth 100000
open Go.RowKit Go.Proofs.YtpiohahfdekmhaaDoor.Wire

theorem get_okI (s : ByteArray) (a k : Int) (w : World) (h1 : 1 ≤ k) (h4 : k ≤ 4) (h0 : 0 ≤ a) (ha : a + k ≤ s.size) (hm : s.size ≤ 9223372036854775807) :
    Calls Tryd.prog 37 #[.string s, .int .i64 a, .int .i64 k] w fun e w' => e = .returned (.tuple #[.int .i64 (num (bytesAt s a.toNat k.toNat)), .int .i64 0]) ∧ Below w.heap.size w w' := by
  have hb : k = 1 ∨ k = 2 ∨ k = 3 ∨ k = 4 := by omega
  rcases hb with rfl | rfl | rfl | rfl
  · exact getv1 s a w h0 ha hm
  · exact getv2 s a w h0 ha hm
  · exact getv3 s a w h0 ha hm
  · exact getv4 s a w h0 ha hm
theorem get_noI (s : ByteArray) (a k : Int) (w : World) (hm : s.size ≤ 9223372036854775807) (h : ¬ (1 ≤ k ∧ k ≤ 4 ∧ 0 ≤ a ∧ a + k ≤ s.size)) :
    Calls Tryd.prog 37 #[.string s, .int .i64 a, .int .i64 k] w fun e w' => e = .returned (.tuple #[.int .i64 0, .int .i64 10]) ∧ Below w.heap.size w w' :=
  (get_no s a k w hm h).mono fun _ _ ⟨he, hw⟩ => ⟨he, hw ▸ Below.refl _ _⟩

set_option maxRecDepth 100000 in
set_option maxHeartbeats 1000000 in
theorem number_ok (B : Nat) (s : ByteArray) (a k : Int) (sh : Bool) (v3 v4 v5 v6 v7 v8 v9 v10 v11 v12 : Value) (w : World) (hB : w.heap[B]? = some (.cells #[.string s, .int .i64 a, .bool sh, v3, v4, v5, v6, v7, v8, v9, v10, v11, v12] 68)) (h0 : 0 ≤ a) (h1 : 1 ≤ k) (h4 : k ≤ 4) (hk : a + k ≤ s.size) (hs : s.size ≤ 9223372036854775807) :
    Calls Tryd.prog 38 #[.pointer (some ⟨B, 0, none⟩), .int .i64 k] w fun e w' => e = .returned (.int .i64 (num (bytesAt s a.toNat k.toNat))) ∧ w'.heap[B]? = some (.cells #[.string s, .int .i64 (a + k), .bool sh, v3, v4, v5, v6, v7, v8, v9, v10, v11, v12] 68) ∧ w.grownBy w' (some B) := by
  have HG := Lib.hid fun w => get_okI s a k w (by omega) (by omega) (by omega) (by omega) hs
  generalize num (bytesAt s a.toNat k.toNat) = N at *
  have Hd := Lib.hid hB; clear hB
  go_enter Tryd.func38, Tryd.ntmps38
  have HB := only_refl w B
  go_wp2_with fail
  go_region_held3 (fun w' => w'.cell? ⟨B, 0, none⟩ = some (.string s) ∧ w'.cell? ⟨B, 1, none⟩ = some (.int .i64 a) ∧ w'.heap[B]? = some (.cells #[.string s, .int .i64 a, .bool sh, v3, v4, v5, v6, v7, v8, v9, v10, v11, v12] 68) ∧ World.grownBy w w' (some (B))) (first | exact ⟨(cell_of_block Hd.out rfl).1, (cell_of_block Hd.out rfl).1, Hd.out, only_drew HB⟩ | (go_split_ands; exact ⟨by assumption, by assumption, by assumption, by assumption⟩) | (go_split_ands; exact ⟨bcell (by assumption) (by assumption), bcell (by assumption) (by assumption), bblock (by assumption) (by assumption), only_call (by assumption) (by assumption)⟩) | (go_split_ands; exact ⟨cell_alloc' _ (by assumption), cell_alloc' _ (by assumption), block_alloc (by assumption) _, only_alloc (by assumption)⟩))
    (first | (go_at_call 37; refine (HG.out _).mono ?_; rintro e w1 ⟨rfl, hb1⟩))
  rename_i hH
  obtain ⟨k0_, k1_, k2_, HB'⟩ := hH
  clear Hd; have Hd := Lib.hid k2_
  clear k0_ k1_ k2_
  clear HB; have HB := HB'; clear HB'
  have hz := HB.size
  have qd0 := (cell_of_block (k := 0) Hd.out rfl).1; have zd0 := (cell_of_block (k := 0) Hd.out rfl).2
  have qd1 := (cell_of_block (k := 1) Hd.out rfl).1; have zd1 := (cell_of_block (k := 1) Hd.out rfl).2
  have qd2 := (cell_of_block (k := 2) Hd.out rfl).1; have zd2 := (cell_of_block (k := 2) Hd.out rfl).2
  have lt_d := blk_lt Hd.out
  go_wp2_with fail
  go_ret
  exact ⟨rfl, block_setCell (k := 1) Hd.out, only_set HB (.inl rfl) _⟩

set_option maxRecDepth 100000 in
set_option maxHeartbeats 1000000 in
theorem number_no (B : Nat) (s : ByteArray) (a k : Int) (sh : Bool) (v3 v4 v5 v6 v7 v8 v9 v10 v11 v12 : Value) (w : World) (hB : w.heap[B]? = some (.cells #[.string s, .int .i64 a, .bool sh, v3, v4, v5, v6, v7, v8, v9, v10, v11, v12] 68)) (hs : s.size ≤ 9223372036854775807) (hno : ¬ (1 ≤ k ∧ k ≤ 4 ∧ 0 ≤ a ∧ a + k ≤ s.size)) :
    Calls Tryd.prog 38 #[.pointer (some ⟨B, 0, none⟩), .int .i64 k] w fun e w' => e = .returned (.int .i64 0) ∧ w'.heap[B]? = some (.cells #[.string s, .int .i64 a, .bool true, v3, v4, v5, v6, v7, v8, v9, v10, v11, v12] 68) ∧ w.grownBy w' (some B) := by
  have HG := Lib.hid fun w => get_noI s a k w hs hno; clear hno
  have Hd := Lib.hid hB; clear hB
  go_enter Tryd.func38, Tryd.ntmps38
  have HB := only_refl w B
  go_wp2_with fail
  go_region_held3 (fun w' => w'.cell? ⟨B, 0, none⟩ = some (.string s) ∧ w'.cell? ⟨B, 1, none⟩ = some (.int .i64 a) ∧ w'.heap[B]? = some (.cells #[.string s, .int .i64 a, .bool sh, v3, v4, v5, v6, v7, v8, v9, v10, v11, v12] 68) ∧ World.grownBy w w' (some (B))) (first | exact ⟨(cell_of_block Hd.out rfl).1, (cell_of_block Hd.out rfl).1, Hd.out, only_drew HB⟩ | (go_split_ands; exact ⟨by assumption, by assumption, by assumption, by assumption⟩) | (go_split_ands; exact ⟨bcell (by assumption) (by assumption), bcell (by assumption) (by assumption), bblock (by assumption) (by assumption), only_call (by assumption) (by assumption)⟩) | (go_split_ands; exact ⟨cell_alloc' _ (by assumption), cell_alloc' _ (by assumption), block_alloc (by assumption) _, only_alloc (by assumption)⟩))
    (first | (go_at_call 37; refine (HG.out _).mono ?_; rintro e w1 ⟨rfl, hb1⟩))
  rename_i hH
  obtain ⟨k0_, k1_, k2_, HB'⟩ := hH
  clear Hd; have Hd := Lib.hid k2_
  clear k0_ k1_ k2_
  clear HB; have HB := HB'; clear HB'
  have hz := HB.size
  have qd0 := (cell_of_block (k := 0) Hd.out rfl).1; have zd0 := (cell_of_block (k := 0) Hd.out rfl).2
  have qd1 := (cell_of_block (k := 1) Hd.out rfl).1; have zd1 := (cell_of_block (k := 1) Hd.out rfl).2
  have qd2 := (cell_of_block (k := 2) Hd.out rfl).1; have zd2 := (cell_of_block (k := 2) Hd.out rfl).2
  have lt_d := blk_lt Hd.out
  go_wp2_with fail
  go_ret
  exact ⟨rfl, block_setCell (k := 2) Hd.out, only_set HB (.inl rfl) _⟩

theorem rest_any (B : Nat) (s : ByteArray) (a : Nat) (sh : Value) (v3 v4 v5 v6 v7 v8 v9 v10 v11 v12 : Value) (w : World) (hB : w.heap[B]? = some (.cells #[.string s, .int .i64 (a : Int), sh, v3, v4, v5, v6, v7, v8, v9, v10, v11, v12] 68)) (ha : a ≤ s.size) (_hs : s.size ≤ 9223372036854775807) :
    Calls Tryd.prog 25 #[.pointer (some ⟨B, 0, none⟩)] w fun e w' => e = .returned (.string (s.extract a s.size)) ∧ Below w.heap.size w w' := by
  have b1 : (0 : Int) ≤ (a : Int) := by omega
  have b2 : (a : Int) ≤ (s.size : Int) := by omega
  have c0 := (cell_of_block (k := 0) hB rfl).1
  have c1 := (cell_of_block (k := 1) hB rfl).1
  clear hB
  go_enter Tryd.func25, Tryd.ntmps25
  go_wp2_with fail
  go_region
  all_goals
    go_wp2_with fail
    go_ret
    exact ⟨rfl, (Below.refl _ _).drew⟩
end Go.Proofs.YtpiohahfdekmhaaDoor.Ip
