/-
  Contracts of ip.DecodeHeader and ip.Decode.
-/
import Derived.Test.YtpiohahfdekmhaaDoorIpDec3
import Derived.Deep.DrawnRows
import Derived.BigGuardPart
import Derived.Deep.DeepCutAuto
import Derived.Outline
namespace Go.Proofs.YtpiohahfdekmhaaDoor.Ip
set_option maxRecDepth 100000
open Go.RowKit Go.Proofs.YtpiohahfdekmhaaDoor.Wire
attribute [local go_sem ↓] Go.wp_at_zero Go.wp_at_succ
theorem only_undrew {a w : World} {row : Option Nat} (h : a.drew.grownBy w row) : a.grownBy w row := ⟨h.os, h.tape, h.output, h.size, h.block⟩

set_option maxRecDepth 100000 in
set_option maxHeartbeats 4000000 in
theorem DecodeHeader_bad (s : ByteArray) (w : World) (HD : Hid (∀ (B : Nat) (w : World), w.heap[B]? = some (.cells #[.string s, .int .i64 0, .bool false, .int .i64 0, .int .i64 0, .int .i64 0, .int .i64 0, .int .i64 0, .bool false, .bool false, .int .i64 0, .string ⟨#[]⟩, .int .i64 0] 68) → Calls Tryd.prog 24 #[.pointer (some ⟨B, 0, none⟩)] w fun e w' => e = .returned (.bool false) ∧ w.grownBy w' (some B))) :
    Calls Tryd.prog 14 #[.string s] w fun e w' => e = .returned (.tuple #[.agg #[.int .i64 0, .int .i64 0, .int .i64 0, .int .i64 0, .int .i64 0, .bool false, .bool false, .int .i64 0, .string ⟨#[]⟩], .int .i64 60]) ∧ Below w.heap.size w w' := by
  go_enter Tryd.func14, Tryd.ntmps14
  have HB := Below.refl w.heap.size w
  have Hr := Lib.hid (alloc_new' w (.cells #[.int .i64 0, .int .i64 0, .int .i64 0, .int .i64 0, .int .i64 0, .bool false, .bool false, .int .i64 0, .string ⟨#[]⟩] 26) (w.heap.size) (by simp))
  have HB' := below_alloc (o := .cells #[.int .i64 0, .int .i64 0, .int .i64 0, .int .i64 0, .int .i64 0, .bool false, .bool false, .int .i64 0, .string ⟨#[]⟩] 26) HB; clear HB; have HB := HB'; clear HB'
  have Hd := Lib.hid (alloc_new' (w.alloc (.cells #[.int .i64 0, .int .i64 0, .int .i64 0, .int .i64 0, .int .i64 0, .bool false, .bool false, .int .i64 0, .string ⟨#[]⟩] 26)) (.cells #[.string s, .int .i64 0, .bool false, .int .i64 0, .int .i64 0, .int .i64 0, .int .i64 0, .int .i64 0, .bool false, .bool false, .int .i64 0, .string ⟨#[]⟩, .int .i64 0] 68) (w.heap.size + 1) (by simp))
  have Hr' := Lib.hid (block_alloc Hr.out (.cells #[.string s, .int .i64 0, .bool false, .int .i64 0, .int .i64 0, .int .i64 0, .int .i64 0, .int .i64 0, .bool false, .bool false, .int .i64 0, .string ⟨#[]⟩, .int .i64 0] 68)); clear Hr; have Hr := Hr'; clear Hr'
  have HB' := below_alloc (o := .cells #[.string s, .int .i64 0, .bool false, .int .i64 0, .int .i64 0, .int .i64 0, .int .i64 0, .int .i64 0, .bool false, .bool false, .int .i64 0, .string ⟨#[]⟩, .int .i64 0] 68) HB; clear HB; have HB := HB'; clear HB'
  go_upto_region 2 with fail
  go_cut [17] (fun s17 wx => s17 = .bool true ∧ Below w.heap.size w wx ∧ wx.heap[w.heap.size]? = some (.cells #[.int .i64 0, .int .i64 0, .int .i64 0, .int .i64 0, .int .i64 0, .bool false, .bool false, .int .i64 0, .string ⟨#[]⟩] 26))
  case first =>
    first | (go_region_with (first | (go_at_call 24; refine (HD.out _ _ (by exact Hd.out)).mono ?_; rintro e w1 ⟨rfl, hg0⟩))) | fail
    all_goals
      have hg := only_undrew hg0; clear hg0
      have Hr' := Lib.hid (bblock_only hg Hr.out (by simp))
      have HB' := below_only HB hg (by omega)
      go_wp2_with fail
      go_meet
      exact ⟨rfl, HB', Hr'.out⟩
  case rest =>
    clear HB Hr Hd
    obtain ⟨rfl, HB, Hr⟩ := hcut
    have Hr' := Lib.hid Hr; clear Hr
    obtain ⟨⟨qr0, qr1, qr2, qr3, qr4, qr5, qr6, qr7, qr8⟩, zr0, zr1, zr2, zr3, zr4, zr5, zr6, zr7, zr8⟩ := cells9 Hr'.out
    go_wp2_with fail
    have HZ := cells_eq (b := #[.int .i64 0, .int .i64 0, .int .i64 0, .int .i64 0, .int .i64 0, .bool false, .bool false, .int .i64 0, .string ⟨#[]⟩]) (block_setCell (k := 8) (v := .string ⟨#[]⟩) (block_setCell (k := 7) (v := .int .i64 0) (block_setCell (k := 6) (v := .bool false) (block_setCell (k := 5) (v := .bool false) (block_setCell (k := 4) (v := .int .i64 0) (block_setCell (k := 3) (v := .int .i64 0) (block_setCell (k := 2) (v := .int .i64 0) (block_setCell (k := 1) (v := .int .i64 0) (block_setCell (k := 0) (v := .int .i64 0) Hr'.out))))))))) rfl
    refine bodyPost_ret (v := .tuple #[.agg #[.int .i64 0, .int .i64 0, .int .i64 0, .int .i64 0, .int .i64 0, .bool false, .bool false, .int .i64 0, .string ⟨#[]⟩], .int .i64 60]) ?_ rfl ⟨rfl, (Below.setCell (Below.setCell (Below.setCell (Below.setCell (Below.setCell (Below.setCell (Below.setCell (Below.setCell (Below.setCell HB (by simp) _) (by simp) _) (by simp) _) (by simp) _) (by simp) _) (by simp) _) (by simp) _) (by simp) _) (by simp) _)⟩
    exact res_cell_tmp Tryd.results14 HZ rfl Tryd.underlying26 rfl (by kernel_rfl)

set_option maxRecDepth 100000 in
set_option maxHeartbeats 4000000 in
theorem DecodeHeader_good (s : ByteArray) (w : World) (n1 n2 n3 n4 n5 n7 n8 : Int) (df mf : Bool) (h20 : 20 ≤ s.size) (hs : s.size ≤ 9223372036854775807) (hn : decide (n8 < ((s.size - 20 : Nat) : Int)) = false)
    (HD : Hid (∀ (B : Nat) (w : World), w.heap[B]? = some (.cells #[.string s, .int .i64 0, .bool false, .int .i64 0, .int .i64 0, .int .i64 0, .int .i64 0, .int .i64 0, .bool false, .bool false, .int .i64 0, .string ⟨#[]⟩, .int .i64 0] 68) → Calls Tryd.prog 24 #[.pointer (some ⟨B, 0, none⟩)] w fun e w' => e = .returned (.bool true) ∧ w'.heap[B]? = some (.cells #[.string s, .int .i64 20, .bool false, .int .i64 n1, .int .i64 n2, .int .i64 n3, .int .i64 n4, .int .i64 n5, .bool df, .bool mf, .int .i64 (8 * n7), .string ⟨#[]⟩, .int .i64 n8] 68) ∧ w.grownBy w' (some B))) :
    Calls Tryd.prog 14 #[.string s] w fun e w' => e = .returned (.tuple #[.agg #[.int .i64 n1, .int .i64 n2, .int .i64 n3, .int .i64 n4, .int .i64 n5, .bool df, .bool mf, .int .i64 (8 * n7), .string (s.extract 20 s.size)], .int .i64 0]) ∧ Below w.heap.size w w' := by
  go_enter Tryd.func14, Tryd.ntmps14
  have HB := Below.refl w.heap.size w
  have Hr := Lib.hid (alloc_new' w (.cells #[.int .i64 0, .int .i64 0, .int .i64 0, .int .i64 0, .int .i64 0, .bool false, .bool false, .int .i64 0, .string ⟨#[]⟩] 26) (w.heap.size) (by simp))
  have HB' := below_alloc (o := .cells #[.int .i64 0, .int .i64 0, .int .i64 0, .int .i64 0, .int .i64 0, .bool false, .bool false, .int .i64 0, .string ⟨#[]⟩] 26) HB; clear HB; have HB := HB'; clear HB'
  have Hd := Lib.hid (alloc_new' (w.alloc (.cells #[.int .i64 0, .int .i64 0, .int .i64 0, .int .i64 0, .int .i64 0, .bool false, .bool false, .int .i64 0, .string ⟨#[]⟩] 26)) (.cells #[.string s, .int .i64 0, .bool false, .int .i64 0, .int .i64 0, .int .i64 0, .int .i64 0, .int .i64 0, .bool false, .bool false, .int .i64 0, .string ⟨#[]⟩, .int .i64 0] 68) (w.heap.size + 1) (by simp))
  have Hr' := Lib.hid (block_alloc Hr.out (.cells #[.string s, .int .i64 0, .bool false, .int .i64 0, .int .i64 0, .int .i64 0, .int .i64 0, .int .i64 0, .bool false, .bool false, .int .i64 0, .string ⟨#[]⟩, .int .i64 0] 68)); clear Hr; have Hr := Hr'; clear Hr'
  have HB' := below_alloc (o := .cells #[.string s, .int .i64 0, .bool false, .int .i64 0, .int .i64 0, .int .i64 0, .int .i64 0, .int .i64 0, .bool false, .bool false, .int .i64 0, .string ⟨#[]⟩, .int .i64 0] 68) HB; clear HB; have HB := HB'; clear HB'
  go_upto_region 2 with fail
  go_cut [17] (fun s17 wx => s17 = .bool false ∧ Below w.heap.size w wx ∧ wx.heap[w.heap.size]? = some (.cells #[.int .i64 0, .int .i64 0, .int .i64 0, .int .i64 0, .int .i64 0, .bool false, .bool false, .int .i64 0, .string ⟨#[]⟩] 26) ∧ wx.heap[w.heap.size + 1]? = some (.cells #[.string s, .int .i64 20, .bool false, .int .i64 n1, .int .i64 n2, .int .i64 n3, .int .i64 n4, .int .i64 n5, .bool df, .bool mf, .int .i64 (8 * n7), .string ⟨#[]⟩, .int .i64 n8] 68))
  case first =>
    first | (go_region_with (first | (go_at_call 24; refine (HD.out _ _ (by exact Hd.out)).mono ?_; rintro e w1 ⟨rfl, Hd', hg0⟩; have Hd2 := Lib.hid Hd'; have qd12 := (cell_of_block (k := 12) Hd2.out rfl).1) | (go_at_call 25; refine (rest_any (w.heap.size + 1) s 20 (.bool false) (.int .i64 n1) (.int .i64 n2) (.int .i64 n3) (.int .i64 n4) (.int .i64 n5) (.bool df) (.bool mf) (.int .i64 (8 * n7)) (.string ⟨#[]⟩) (.int .i64 n8) _ (by exact Hd2.out) (by omega) hs).mono ?_; rintro e w2 ⟨rfl, hb2⟩; have qd12b := bcell hb2 qd12))) | fail
    all_goals
      have hg := only_undrew hg0; clear hg0
      have Hr' := Lib.hid (bblock_only hg Hr.out (by simp))
      have HB' := below_only HB hg (by omega)
      have HB2 := below_call HB' hb2; have Hr2 := Lib.hid (bblock hb2 Hr'.out); have Hd3 := Lib.hid (bblock hb2 Hd2.out)
      go_wp2_with fail
      go_meet
      exact ⟨rfl, HB2, Hr2.out, Hd3.out⟩
  case rest =>
    clear HB Hr Hd
    obtain ⟨rfl, HB, Hr, Hd⟩ := hcut
    have Hr' := Lib.hid Hr; clear Hr; have Hd' := Lib.hid Hd; clear Hd; have Hd := Hd'; have Hr := Hr'; clear Hd' Hr'
    have Hx := rest_any (w.heap.size + 1) s 20 (.bool false) (.int .i64 n1) (.int .i64 n2) (.int .i64 n3) (.int .i64 n4) (.int .i64 n5) (.bool df) (.bool mf) (.int .i64 (8 * n7)) (.string ⟨#[]⟩) (.int .i64 n8) _ Hd.out (by omega) hs; have HX := Lib.hid Hx; clear Hx
    go_wp2_with fail
    refine (HX.out).mono ?_
    rintro e w3 ⟨rfl, hb3⟩
    have HB' := below_call HB hb3; have Hr' := Lib.hid (bblock hb3 Hr.out); have Hd' := Lib.hid (bblock hb3 Hd.out); clear hb3 HX HB Hr Hd; have HB := HB'; have Hr := Hr'; have Hd := Hd'; clear HB' Hr' Hd'
    have Hd' := Lib.hid (cells_eq (b := #[.string s, .int .i64 20, .bool false, .int .i64 n1, .int .i64 n2, .int .i64 n3, .int .i64 n4, .int .i64 n5, .bool df, .bool mf, .int .i64 (8 * n7), .string (s.extract 20 s.size), .int .i64 n8]) (block_setCell (k := 11) (v := .string (s.extract 20 s.size)) Hd.out) rfl)
    have Hr' := Lib.hid (block_set_other (a := ⟨w.heap.size + 1, 11, none⟩) (u := .string (s.extract 20 s.size)) Hr.out (by simp))
    have HB' := Below.setCell HB (p := ⟨w.heap.size + 1, 11, none⟩) (by simp) (.string (s.extract 20 s.size))
    have qd11 := (cell_of_block (k := 11) Hd.out rfl).1; have zd11 := (cell_of_block (k := 11) Hd.out rfl).2
    obtain ⟨⟨qr0, qr1, qr2, qr3, qr4, qr5, qr6, qr7, qr8⟩, zr0, zr1, zr2, zr3, zr4, zr5, zr6, zr7, zr8⟩ := cells9 Hr.out
    obtain ⟨⟨qd0, qd1, qd2, qd3, qd4, qd5, qd6, qd7, qd8, qd9, qd10, _, qd12⟩, _⟩ := cells13 Hd.out
    go_wp2_with fail
    have HZ := cells_eq (b := #[.int .i64 n1, .int .i64 n2, .int .i64 n3, .int .i64 n4, .int .i64 n5, .bool df, .bool mf, .int .i64 (8 * n7), .string (s.extract 20 s.size)]) (block_setCell (k := 8) (v := .string (s.extract 20 s.size)) (block_setCell (k := 7) (v := .int .i64 (8 * n7)) (block_setCell (k := 6) (v := .bool mf) (block_setCell (k := 5) (v := .bool df) (block_setCell (k := 4) (v := .int .i64 n5) (block_setCell (k := 3) (v := .int .i64 n4) (block_setCell (k := 2) (v := .int .i64 n3) (block_setCell (k := 1) (v := .int .i64 n2) (block_setCell (k := 0) (v := .int .i64 n1) Hr'.out))))))))) rfl
    refine bodyPost_ret (v := .tuple #[.agg #[.int .i64 n1, .int .i64 n2, .int .i64 n3, .int .i64 n4, .int .i64 n5, .bool df, .bool mf, .int .i64 (8 * n7), .string (s.extract 20 s.size)], .int .i64 0]) ?_ rfl ⟨rfl, (Below.setCell (Below.setCell (Below.setCell (Below.setCell (Below.setCell (Below.setCell (Below.setCell (Below.setCell (Below.setCell HB' (by simp) _) (by simp) _) (by simp) _) (by simp) _) (by simp) _) (by simp) _) (by simp) _) (by simp) _) (by simp) _)⟩
    exact res_cell_tmp Tryd.results14 HZ rfl Tryd.underlying26 rfl (by kernel_rfl)

set_option maxRecDepth 100000 in
set_option maxHeartbeats 4000000 in
theorem DecodeHeader_long (s : ByteArray) (w : World) (n1 n2 n3 n4 n5 n7 n8 : Int) (df mf : Bool) (h20 : 20 ≤ s.size) (hs : s.size ≤ 9223372036854775807) (hn : decide (n8 < ((s.size - 20 : Nat) : Int)) = true)
    (HD : Hid (∀ (B : Nat) (w : World), w.heap[B]? = some (.cells #[.string s, .int .i64 0, .bool false, .int .i64 0, .int .i64 0, .int .i64 0, .int .i64 0, .int .i64 0, .bool false, .bool false, .int .i64 0, .string ⟨#[]⟩, .int .i64 0] 68) → Calls Tryd.prog 24 #[.pointer (some ⟨B, 0, none⟩)] w fun e w' => e = .returned (.bool true) ∧ w'.heap[B]? = some (.cells #[.string s, .int .i64 20, .bool false, .int .i64 n1, .int .i64 n2, .int .i64 n3, .int .i64 n4, .int .i64 n5, .bool df, .bool mf, .int .i64 (8 * n7), .string ⟨#[]⟩, .int .i64 n8] 68) ∧ w.grownBy w' (some B))) :
    Calls Tryd.prog 14 #[.string s] w fun e w' => e = .returned (.tuple #[.agg #[.int .i64 0, .int .i64 0, .int .i64 0, .int .i64 0, .int .i64 0, .bool false, .bool false, .int .i64 0, .string ⟨#[]⟩], .int .i64 60]) ∧ Below w.heap.size w w' := by
  go_enter Tryd.func14, Tryd.ntmps14
  have HB := Below.refl w.heap.size w
  have Hr := Lib.hid (alloc_new' w (.cells #[.int .i64 0, .int .i64 0, .int .i64 0, .int .i64 0, .int .i64 0, .bool false, .bool false, .int .i64 0, .string ⟨#[]⟩] 26) (w.heap.size) (by simp))
  have HB' := below_alloc (o := .cells #[.int .i64 0, .int .i64 0, .int .i64 0, .int .i64 0, .int .i64 0, .bool false, .bool false, .int .i64 0, .string ⟨#[]⟩] 26) HB; clear HB; have HB := HB'; clear HB'
  have Hd := Lib.hid (alloc_new' (w.alloc (.cells #[.int .i64 0, .int .i64 0, .int .i64 0, .int .i64 0, .int .i64 0, .bool false, .bool false, .int .i64 0, .string ⟨#[]⟩] 26)) (.cells #[.string s, .int .i64 0, .bool false, .int .i64 0, .int .i64 0, .int .i64 0, .int .i64 0, .int .i64 0, .bool false, .bool false, .int .i64 0, .string ⟨#[]⟩, .int .i64 0] 68) (w.heap.size + 1) (by simp))
  have Hr' := Lib.hid (block_alloc Hr.out (.cells #[.string s, .int .i64 0, .bool false, .int .i64 0, .int .i64 0, .int .i64 0, .int .i64 0, .int .i64 0, .bool false, .bool false, .int .i64 0, .string ⟨#[]⟩, .int .i64 0] 68)); clear Hr; have Hr := Hr'; clear Hr'
  have HB' := below_alloc (o := .cells #[.string s, .int .i64 0, .bool false, .int .i64 0, .int .i64 0, .int .i64 0, .int .i64 0, .int .i64 0, .bool false, .bool false, .int .i64 0, .string ⟨#[]⟩, .int .i64 0] 68) HB; clear HB; have HB := HB'; clear HB'
  go_upto_region 2 with fail
  go_cut [17] (fun s17 wx => s17 = .bool true ∧ Below w.heap.size w wx ∧ wx.heap[w.heap.size]? = some (.cells #[.int .i64 0, .int .i64 0, .int .i64 0, .int .i64 0, .int .i64 0, .bool false, .bool false, .int .i64 0, .string ⟨#[]⟩] 26) ∧ wx.heap[w.heap.size + 1]? = some (.cells #[.string s, .int .i64 20, .bool false, .int .i64 n1, .int .i64 n2, .int .i64 n3, .int .i64 n4, .int .i64 n5, .bool df, .bool mf, .int .i64 (8 * n7), .string ⟨#[]⟩, .int .i64 n8] 68))
  case first =>
    first | (go_region_with (first | (go_at_call 24; refine (HD.out _ _ (by exact Hd.out)).mono ?_; rintro e w1 ⟨rfl, Hd', hg0⟩; have Hd2 := Lib.hid Hd'; have qd12 := (cell_of_block (k := 12) Hd2.out rfl).1) | (go_at_call 25; refine (rest_any (w.heap.size + 1) s 20 (.bool false) (.int .i64 n1) (.int .i64 n2) (.int .i64 n3) (.int .i64 n4) (.int .i64 n5) (.bool df) (.bool mf) (.int .i64 (8 * n7)) (.string ⟨#[]⟩) (.int .i64 n8) _ (by exact Hd2.out) (by omega) hs).mono ?_; rintro e w2 ⟨rfl, hb2⟩; have qd12b := bcell hb2 qd12))) | fail
    all_goals
      have hg := only_undrew hg0; clear hg0
      have Hr' := Lib.hid (bblock_only hg Hr.out (by simp))
      have HB' := below_only HB hg (by omega)
      have HB2 := below_call HB' hb2; have Hr2 := Lib.hid (bblock hb2 Hr'.out); have Hd3 := Lib.hid (bblock hb2 Hd2.out)
      go_wp2_with fail
      go_meet
      exact ⟨rfl, HB2, Hr2.out, Hd3.out⟩
  case rest =>
    clear HB Hr Hd
    obtain ⟨rfl, HB, Hr, Hd⟩ := hcut
    have Hr' := Lib.hid Hr; clear Hr; have Hd' := Lib.hid Hd; clear Hd; have Hd := Hd'; have Hr := Hr'; clear Hd' Hr'
    obtain ⟨⟨qr0, qr1, qr2, qr3, qr4, qr5, qr6, qr7, qr8⟩, zr0, zr1, zr2, zr3, zr4, zr5, zr6, zr7, zr8⟩ := cells9 Hr.out
    go_wp2_with fail
    have HZ := cells_eq (b := #[.int .i64 0, .int .i64 0, .int .i64 0, .int .i64 0, .int .i64 0, .bool false, .bool false, .int .i64 0, .string ⟨#[]⟩]) (block_setCell (k := 8) (v := .string ⟨#[]⟩) (block_setCell (k := 7) (v := .int .i64 0) (block_setCell (k := 6) (v := .bool false) (block_setCell (k := 5) (v := .bool false) (block_setCell (k := 4) (v := .int .i64 0) (block_setCell (k := 3) (v := .int .i64 0) (block_setCell (k := 2) (v := .int .i64 0) (block_setCell (k := 1) (v := .int .i64 0) (block_setCell (k := 0) (v := .int .i64 0) Hr.out))))))))) rfl
    refine bodyPost_ret (v := .tuple #[.agg #[.int .i64 0, .int .i64 0, .int .i64 0, .int .i64 0, .int .i64 0, .bool false, .bool false, .int .i64 0, .string ⟨#[]⟩], .int .i64 60]) ?_ rfl ⟨rfl, (Below.setCell (Below.setCell (Below.setCell (Below.setCell (Below.setCell (Below.setCell (Below.setCell (Below.setCell (Below.setCell HB (by simp) _) (by simp) _) (by simp) _) (by simp) _) (by simp) _) (by simp) _) (by simp) _) (by simp) _) (by simp) _)⟩
    exact res_cell_tmp Tryd.results14 HZ rfl Tryd.underlying26 rfl (by kernel_rfl)

end Go.Proofs.YtpiohahfdekmhaaDoor.Ip
