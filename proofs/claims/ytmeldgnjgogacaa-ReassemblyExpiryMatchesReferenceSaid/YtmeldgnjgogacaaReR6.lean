/-
  The reference of chapter 7: Tick at a table with one half or none.
-/
import Derived.Test.YtmeldgnjgogacaaReR5
import Derived.Test.YtmeldgnjgogacaaReL15
namespace Go.Proofs.Ytmeldgnjgogacaa.Re
set_option maxRecDepth 100000
open Go.RowKit Go.Proofs.Ytmeldgnjgogacaa.Wire
open Go.Proofs.Ytmeldgnjgogacaa.Ip (Pk vlenB VLen)

set_option maxHeartbeats 4000000 in
theorem rtick_none (T : Nat) (n : Int) (w : World) (hT : RNone T w) :
    Calls Try.prog 20 #[.pointer (some ⟨T, 0, none⟩), .int .i64 n] w fun x w' => x = .returned (.slice none 0 0) ∧ RNone T w' ∧ w.grownBy w' (some T) := by
  have HT := Lib.hid hT
  have qT := (cell_of_block (k := 0) HT.out rfl).1; have zT := (cell_of_block (k := 0) HT.out rfl).2
  clear hT
  go_enter Try.func20, Try.ntmps20
  go_wp2_with fail
  go_loopw [5, 6, 7] (fun o l i wr => i = .int .i64 0 ∧ o = .slice none 0 0 ∧ l = .slice none 0 0 ∧ wr = w) (fun _ _ _ _ => 0)
  case atStart => exact ⟨rfl, rfl, rfl, rfl⟩
  case round =>
    obtain ⟨rfl, rfl, rfl, rfl⟩ := hrel
    go_wp2_with fail
    go_ret
    exact ⟨rfl, cells_eq (block_setCell (k := 0) HT.out) (by simp), only_set (World.grownBy.refl _ _) (.inl rfl) _⟩
set_option maxHeartbeats 8000000 in
theorem rtick_keep (lo T : Nat) (p : Pk) (bg : Int) (F : Pk) (has : Bool) (hv : List Bool) (n : Int) (w : World) (hu : ROne lo T p bg F has hv w) (h1 : In64 n) (h2 : In64 bg) (ho : decide (bg ≤ n ∧ 30 ≤ n - bg) = false) :
    Calls Try.prog 20 #[.pointer (some ⟨T, 0, none⟩), .int .i64 n] w fun x w' => x = .returned (.slice none 0 0) ∧ ROne lo T p bg F has hv w' ∧ w.grownBy w' (some T) := by
  have HO := Lib.hid hu
  have HOLD := Lib.hid (fun W => rold_any n bg W h1 h2)
  obtain ⟨hb, gb, gt, gl, c, by_, hh, hT, hrow, hgl, gn1, gn2, gn3, hTl⟩ := hu
  have HH := Lib.hid hh; have HT := Lib.hid hT; have HROW := Lib.hid hrow
  have hTw := blk_lt hT
  have hlow : lo ≤ w.heap.size := by have := row_lt hrow; omega
  have HNO := Lib.hid ho; clear ho
  clear hh hT hrow h1 h2
  go_enter Try.func20, Try.ntmps20
  have qT := (cell_of_block (k := 0) HT.out rfl).1
  go_wp2_with fail
  go_loopw [5, 6, 7] (fun o l i wr => (i = .int .i64 0 ∧ o = .slice none 0 0 ∧ l = .slice none 0 0 ∧ wr = w) ∨ (i = .int .i64 1 ∧ Below w.heap.size w wr ∧ o = .slice none 0 0 ∧ ∃ g cap, l = .slice (some ⟨g, 0, none⟩) 1 cap ∧ wr.ownsRow w.heap.size 86 1 (.slice (some ⟨g, 0, none⟩) 1 cap) 1 [.pointer (some ⟨hb, 0, none⟩)])) (fun _ _ i _ => 1 - (Go.RowKit.intOf i).toNat)
  case atStart => exact .inl ⟨rfl, rfl, rfl, rfl⟩
  case round =>
    rcases hrel with ⟨rfl, rfl, rfl, rfl⟩ | ⟨rfl, hbw, hst⟩
    · obtain ⟨w, rfl⟩ : ∃ wo : World, wo = wr := ⟨_, rfl⟩
      have qr : w.cell? ⟨gl, 0, none⟩ = some (.pointer (some ⟨hb, 0, none⟩)) := World.ownsRow.cells HROW.out rfl 0 _ rfl
      have q9 := (cell_of_block (k := 9) HH.out.h rfl).1; have q22 := (cell_of_block (k := 22) HH.out.h rfl).1; have q23 := (cell_of_block (k := 23) HH.out.h rfl).1
      go_wp2_with fail
      refine (HOLD.out _).mono ?_
      rintro x w2 ⟨rfl, hb2⟩
      rw [HNO.out]
      have HB2 := Lib.hid hb2; clear hb2
      obtain ⟨i0, hi, hz0, hz1, hz2⟩ := info_parts rinfoPH
      have hown0 : w2.ownsRow w.heap.size 86 1 (.slice none 0 0) 0 [] := ⟨rfl, .inl ⟨rfl, rfl⟩⟩
      have HO0 := Lib.hid (hown0.alloc (.cells #[.pointer (some ⟨hb, 0, none⟩)] 86))
      clear hown0 qT qr q9 q22 q23
      have hzz := HB2.out.size
      go_wp2_with (at_builtin; refine wpList_append_lies _ rfl (.tmp 32) (.tmp 34) 73 rfl w.heap.size 86 i0 (.pointer none) 1 8 Try.underlying73 hi hz0 hz1 hz2 rfl (by decide) (.slice none 0 0) 0 [] rfl HO0.out ⟨w2.heap.size, 0, none⟩ 1 1 [.pointer (some ⟨hb, 0, none⟩)] rfl rfl (World.news_of_block (heap_alloc_new w2 _)) (by simp [Value.oneCell']) (by omega) (by unfold maxLen; omega) (by omega) (by simp; omega) (w2.heap.size + 1) (by simp) ?_; intro g cap w3 hown hgrow hat hlt)
      have hg : w2.heap.size ≤ g := by
        rcases hat with r | r
        · simp [Value.ownBlock] at r
        · first | omega | (simp at r; omega)
      have HB3 : Hid (Below w.heap.size w w3) := Lib.hid ((below_alloc HB2.out).grown hgrow (by simp; omega) (fun q eq => by simp [Value.ownBlock] at eq))
      have HOW := Lib.hid (show w3.ownsRow w.heap.size 86 1 (.slice (some ⟨g, 0, none⟩) 1 cap) 1 [.pointer (some ⟨hb, 0, none⟩)] from hown)
      clear hown hgrow hat hlt
      go_wp2_with fail
      exact ⟨.inr ⟨by go_num, HB3.out, ⟨rfl, g, cap, rfl, HOW.out⟩⟩, by simp [Go.RowKit.intOf]⟩
    · clear qT
      have HB := Lib.hid hbw; clear hbw
      obtain ⟨wf, rfl⟩ : ∃ wo : World, wo = wr := ⟨_, rfl⟩
      have HTF := Lib.hid (bblock HB.out HT.out)
      have qT := (cell_of_block (k := 0) HTF.out rfl).1; have zT := (cell_of_block (k := 0) HTF.out rfl).2
      have hz := HB.out.size
      obtain ⟨rfl, g, cap, rfl, how⟩ := hst
      have HOW := Lib.hid how; clear how
      have hgl2 := row_lt HOW.out
      have hgw : w.heap.size ≤ g := by
        rcases HOW.out.2 with ⟨q, -⟩ | ⟨g', cap', cur, e, q1, -⟩
        · cases q
        · injection e with e1 e2 e3
          cases e1
          exact q1
      go_wp2_with fail
      go_ret
      obtain ⟨n1, n2, n3, n4, n5, n6⟩ := HH.out.ne
      have lb := blk_lt HH.out.h; have lbb := blk_lt HH.out.b; have lbt := blk_lt HH.out.t
      have hk : ∀ k, k ≠ T → k < w.heap.size → (wf.setCell ⟨T, 0, none⟩ (.slice (some ⟨g, 0, none⟩) 1 cap)).heap[k]? = w.heap[k]? := fun k h1 h2 => (Below.heap_setCell _ _ _ _ (by show k ≠ T; omega)).trans (HB.out.block k h2)
      refine ⟨rfl, ⟨hb, gb, gt, g, cap, by_, ⟨(hk _ (by omega) lb).trans HH.out.h, (hk _ (by omega) lbb).trans HH.out.b, (hk _ (by omega) lbt).trans HH.out.t, HH.out.ne, HH.out.len⟩, cells_eq (block_setCell (k := 0) HTF.out) (by simp), ?_, by omega, by omega, by omega, by omega, hTl⟩, ⟨HB.out.os, HB.out.tape, HB.out.output, by simpa [World.setCell] using hz, fun k h1 h2 => (Below.heap_setCell _ _ _ _ (by show k ≠ T; exact fun e => h2 (by rw [e]))).trans (HB.out.block k h1)⟩⟩
      have := row_kept HOW.out (Below.heap_setCell wf ⟨T, 0, none⟩ (.slice (some ⟨g, 0, none⟩) 1 cap) g (by show g ≠ T; omega))
      refine ⟨this.1, ?_⟩
      rcases this.2 with q | ⟨g', cap', cur, e, q1, q2⟩
      · exact .inl q
      · exact .inr ⟨g', cap', cur, e, by omega, q2⟩
set_option maxHeartbeats 8000000 in
theorem rtick_drop (lo T : Nat) (p : Pk) (bg : Int) (F : Pk) (has : Bool) (hv : List Bool) (n : Int) (w : World) (hu : ROne lo T p bg F has hv w) (h1 : In64 n) (h2 : In64 bg) (ho : decide (bg ≤ n ∧ 30 ≤ n - bg) = true) (hf : has = false) :
    Calls Try.prog 20 #[.pointer (some ⟨T, 0, none⟩), .int .i64 n] w fun x w' => x = .returned (.slice none 0 0) ∧ RNone T w' ∧ w.grownBy w' (some T) := by
  have HO := Lib.hid hu
  have HOLD := Lib.hid (fun W => rold_any n bg W h1 h2)
  obtain ⟨hb, gb, gt, gl, c, by_, hh, hT, hrow, hgl, gn1, gn2, gn3, hTl⟩ := hu
  have HH := Lib.hid hh; have HT := Lib.hid hT; have HROW := Lib.hid hrow
  have hTw := blk_lt hT
  have hlow : lo ≤ w.heap.size := by have := row_lt hrow; omega
  have HYES := Lib.hid ho; clear ho; subst hf
  clear hh hT hrow h1 h2
  go_enter Try.func20, Try.ntmps20
  have qT := (cell_of_block (k := 0) HT.out rfl).1
  go_wp2_with fail
  go_loopw [5, 6, 7] (fun o l i wr => (i = .int .i64 0 ∧ o = .slice none 0 0 ∧ l = .slice none 0 0 ∧ wr = w) ∨ (i = .int .i64 1 ∧ Below w.heap.size w wr ∧ o = .slice none 0 0 ∧ l = .slice none 0 0)) (fun _ _ i _ => 1 - (Go.RowKit.intOf i).toNat)
  case atStart => exact .inl ⟨rfl, rfl, rfl, rfl⟩
  case round =>
    rcases hrel with ⟨rfl, rfl, rfl, rfl⟩ | ⟨rfl, hbw, hst⟩
    · obtain ⟨w, rfl⟩ : ∃ wo : World, wo = wr := ⟨_, rfl⟩
      have qr : w.cell? ⟨gl, 0, none⟩ = some (.pointer (some ⟨hb, 0, none⟩)) := World.ownsRow.cells HROW.out rfl 0 _ rfl
      have q9 := (cell_of_block (k := 9) HH.out.h rfl).1; have q22 := (cell_of_block (k := 22) HH.out.h rfl).1; have q23 := (cell_of_block (k := 23) HH.out.h rfl).1
      go_wp2_with fail
      refine (HOLD.out _).mono ?_
      rintro x w2 ⟨rfl, hb2⟩
      rw [HYES.out]
      have HB2 := Lib.hid hb2; clear hb2
      have HH2 := Lib.hid (HH.out.below HB2.out)
      clear qT qr q9 q22 q23
      have q22 := (cell_of_block (k := 22) HH2.out.h rfl).1; have q23 := (cell_of_block (k := 23) HH2.out.h rfl).1
      go_wp2_with fail
      exact ⟨.inr ⟨by go_num, HB2.out, ⟨rfl, rfl⟩⟩, by simp [Go.RowKit.intOf]⟩
    · clear qT
      have HB := Lib.hid hbw; clear hbw
      obtain ⟨wf, rfl⟩ : ∃ wo : World, wo = wr := ⟨_, rfl⟩
      have HTF := Lib.hid (bblock HB.out HT.out)
      have qT := (cell_of_block (k := 0) HTF.out rfl).1; have zT := (cell_of_block (k := 0) HTF.out rfl).2
      have hz := HB.out.size
      obtain ⟨rfl, rfl⟩ := hst
      go_wp2_with fail
      go_ret
      exact ⟨rfl, cells_eq (block_setCell (k := 0) HTF.out) (by simp), ⟨HB.out.os, HB.out.tape, HB.out.output, by simpa [World.setCell] using hz, fun k h1 h2 => (Below.heap_setCell _ _ _ _ (by show k ≠ T; exact fun e => h2 (by rw [e]))).trans (HB.out.block k h1)⟩⟩
set_option maxHeartbeats 8000000 in
theorem rtick_told (lo T : Nat) (p : Pk) (bg : Int) (F : Pk) (has : Bool) (hv : List Bool) (n : Int) (w : World) (hu : ROne lo T p bg F has hv w) (h1 : In64 n) (h2 : In64 bg) (ho : decide (bg ≤ n ∧ 30 ≤ n - bg) = true) (hf : has = true) :
    Calls Try.prog 20 #[.pointer (some ⟨T, 0, none⟩), .int .i64 n] w fun x w' => (∃ B c, x = .returned (.slice B 1 c) ∧ PRow w' w.heap.size B c [F]) ∧ RNone T w' ∧ w.grownBy w' (some T) := by
  have HO := Lib.hid hu
  have HOLD := Lib.hid (fun W => rold_any n bg W h1 h2)
  obtain ⟨hb, gb, gt, gl, c, by_, hh, hT, hrow, hgl, gn1, gn2, gn3, hTl⟩ := hu
  have HH := Lib.hid hh; have HT := Lib.hid hT; have HROW := Lib.hid hrow
  have hTw := blk_lt hT
  have hlow : lo ≤ w.heap.size := by have := row_lt hrow; omega
  have HYES := Lib.hid ho; clear ho; subst hf
  clear hh hT hrow h1 h2
  go_enter Try.func20, Try.ntmps20
  have qT := (cell_of_block (k := 0) HT.out rfl).1
  go_wp2_with fail
  go_loopw [5, 6, 7] (fun o l i wr => (i = .int .i64 0 ∧ o = .slice none 0 0 ∧ l = .slice none 0 0 ∧ wr = w) ∨ (i = .int .i64 1 ∧ Below w.heap.size w wr ∧ l = .slice none 0 0 ∧ ∃ g cap, o = .slice (some ⟨g, 0, none⟩) 1 cap ∧ wr.ownsRow w.heap.size 30 9 (.slice (some ⟨g, 0, none⟩) 1 cap) 1 (pkC [F]))) (fun _ _ i _ => 1 - (Go.RowKit.intOf i).toNat)
  case atStart => exact .inl ⟨rfl, rfl, rfl, rfl⟩
  case round =>
    rcases hrel with ⟨rfl, rfl, rfl, rfl⟩ | ⟨rfl, hbw, hst⟩
    · obtain ⟨w, rfl⟩ : ∃ wo : World, wo = wr := ⟨_, rfl⟩
      have qr : w.cell? ⟨gl, 0, none⟩ = some (.pointer (some ⟨hb, 0, none⟩)) := World.ownsRow.cells HROW.out rfl 0 _ rfl
      have q9 := (cell_of_block (k := 9) HH.out.h rfl).1; have q22 := (cell_of_block (k := 22) HH.out.h rfl).1; have q23 := (cell_of_block (k := 23) HH.out.h rfl).1
      go_wp2_with fail
      refine (HOLD.out _).mono ?_
      rintro x w2 ⟨rfl, hb2⟩
      rw [HYES.out]
      have HB2 := Lib.hid hb2; clear hb2
      have HH2 := Lib.hid (HH.out.below HB2.out)
      clear qT qr q9 q22 q23
      have q22 := (cell_of_block (k := 22) HH2.out.h rfl).1; have q23 := (cell_of_block (k := 23) HH2.out.h rfl).1
      have q13 := (cell_of_block (k := 13) HH2.out.h rfl).1; have q14 := (cell_of_block (k := 14) HH2.out.h rfl).1; have q15 := (cell_of_block (k := 15) HH2.out.h rfl).1; have q16 := (cell_of_block (k := 16) HH2.out.h rfl).1; have q17 := (cell_of_block (k := 17) HH2.out.h rfl).1; have q18 := (cell_of_block (k := 18) HH2.out.h rfl).1; have q19 := (cell_of_block (k := 19) HH2.out.h rfl).1; have q20 := (cell_of_block (k := 20) HH2.out.h rfl).1; have q21 := (cell_of_block (k := 21) HH2.out.h rfl).1
      obtain ⟨i0, hi, hz0, hz1, hz2⟩ := info_parts infoPkA
      have hown0 : w2.ownsRow w.heap.size 30 9 (.slice none 0 0) 0 [] := ⟨rfl, .inl ⟨rfl, rfl⟩⟩
      have HO0 := Lib.hid (hown0.alloc (.cells #[.int .i64 F.f, .int .i64 F.t, .int .i64 F.pr, .int .i64 F.ttl, .int .i64 F.id, .bool F.df, .bool F.mf, .int .i64 F.off, .string F.s] 30))
      clear hown0
      have hzz := HB2.out.size
      go_wp2_with (at_builtin; refine wpList_append_lies _ rfl (.tmp 47) (.tmp 52) 37 rfl w.heap.size 30 i0 (.agg #[.int .i64 0, .int .i64 0, .int .i64 0, .int .i64 0, .int .i64 0, .bool false, .bool false, .int .i64 0, .string ⟨#[]⟩]) 9 72 Try.underlying37 hi hz0 hz1 hz2 rfl (by decide) (.slice none 0 0) 0 [] rfl HO0.out ⟨w2.heap.size, 0, none⟩ 1 1 [.int .i64 F.f, .int .i64 F.t, .int .i64 F.pr, .int .i64 F.ttl, .int .i64 F.id, .bool F.df, .bool F.mf, .int .i64 F.off, .string F.s] rfl rfl (World.news_of_block (heap_alloc_new w2 _)) (by simp [Value.oneCell']) (by omega) (by unfold maxLen; omega) (by omega) (by simp; omega) (w2.heap.size + 1) (by simp) ?_; intro g cap w3 hown hgrow hat hlt)
      have HB3 : Hid (Below w.heap.size w w3) := Lib.hid ((below_alloc HB2.out).grown hgrow (by simp; omega) (fun q eq => by simp [Value.ownBlock] at eq))
      have HOW := Lib.hid (show w3.ownsRow w.heap.size 30 9 (.slice (some ⟨g, 0, none⟩) 1 cap) 1 (pkC [F]) from by simpa [pkC] using hown)
      clear hown hgrow hat hlt q13 q14 q15 q16 q17 q18 q19 q20 q21 q22 q23
      go_wp2_with fail
      exact ⟨.inr ⟨by go_num, HB3.out, ⟨rfl, g, cap, rfl, HOW.out⟩⟩, by simp [Go.RowKit.intOf]⟩
    · clear qT
      have HB := Lib.hid hbw; clear hbw
      obtain ⟨wf, rfl⟩ : ∃ wo : World, wo = wr := ⟨_, rfl⟩
      have HTF := Lib.hid (bblock HB.out HT.out)
      have qT := (cell_of_block (k := 0) HTF.out rfl).1; have zT := (cell_of_block (k := 0) HTF.out rfl).2
      have hz := HB.out.size
      obtain ⟨rfl, g, cap, rfl, how⟩ := hst
      have HOW := Lib.hid (show PRow wf w.heap.size (some ⟨g, 0, none⟩) cap [F] from how); clear how
      have hgw := HOW.out.bk ⟨⟨g, 0, none⟩, rfl, rfl⟩
      have hgw1 : w.heap.size ≤ g := hgw.1
      go_wp2_with fail
      go_ret
      exact ⟨⟨some ⟨g, 0, none⟩, cap, rfl, HOW.out.kept (fun a e => by cases e; exact Below.heap_setCell _ _ _ _ (by show g ≠ T; omega))⟩, cells_eq (block_setCell (k := 0) HTF.out) (by simp), ⟨HB.out.os, HB.out.tape, HB.out.output, by simpa [World.setCell] using hz, fun k h1 h2 => (Below.heap_setCell _ _ _ _ (by show k ≠ T; exact fun e => h2 (by rw [e]))).trans (HB.out.block k h1)⟩⟩
end Go.Proofs.Ytmeldgnjgogacaa.Re
