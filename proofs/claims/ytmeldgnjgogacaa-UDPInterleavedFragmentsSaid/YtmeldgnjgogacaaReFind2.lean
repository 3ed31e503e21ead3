/-
  The contract of (*Table).find at a key that is not there, where there is room.
-/
import Derived.Test.YtmeldgnjgogacaaReFind
namespace Go.Proofs.Ytmeldgnjgogacaa.Re
set_option maxRecDepth 100000
open Go.RowKit Go.Proofs.Ytmeldgnjgogacaa.Wire
open Go.Proofs.Ytmeldgnjgogacaa.Ip (Pk)

set_option maxHeartbeats 4000000 in
theorem find_new (T m : Nat) (es : Array MapEntry) (clk : Nat) (O : Option Addr) (oc : Nat) (L : List En) (k : Ky) (hk : k ∉ L.map (·.k)) (now : Int) (w : World) (h : Tab w T m es clk O oc L) (hL : L.length < 8) :
    Calls Try.prog 34 #[.pointer (some ⟨T, 0, none⟩), .agg #[.int .i64 k.f, .int .i64 k.t, .int .i64 k.p, .int .i64 k.i], .int .i64 now] w (NewPost w T m O L k now) := by
  have HT0 := Lib.hid h; have HT0x := Lib.hid h
  have HB := below_alloc (o := .cells #[.int .i64 k.f, .int .i64 k.t, .int .i64 k.p, .int .i64 k.i] 79) (below_alloc (o := .cells #[.pointer (some ⟨T, 0, none⟩)] 25) (Below.refl w.heap.size w))
  have hp := block_alloc (alloc_new w (.cells #[.pointer (some ⟨T, 0, none⟩)] 25)) (.cells #[.int .i64 k.f, .int .i64 k.t, .int .i64 k.p, .int .i64 k.i] 79)
  have hkk := alloc_new' (w.alloc (.cells #[.pointer (some ⟨T, 0, none⟩)] 25)) (.cells #[.int .i64 k.f, .int .i64 k.t, .int .i64 k.p, .int .i64 k.i] 79) (w.heap.size + 1) (by simp)
  have hsz : ((w.alloc (.cells #[.pointer (some ⟨T, 0, none⟩)] 25)).alloc (.cells #[.int .i64 k.f, .int .i64 k.t, .int .i64 k.p, .int .i64 k.i] 79)).heap.size = w.heap.size + 2 := by simp
  go_enter Try.func34, Try.ntmps34
  go_upto_region 1 with fail
  generalize (w.alloc (.cells #[.pointer (some ⟨T, 0, none⟩)] 25)).alloc (.cells #[.int .i64 k.f, .int .i64 k.t, .int .i64 k.p, .int .i64 k.i] 79) = w1 at *
  have HT1 := Lib.hid (HT0.out.below HB)
  have hlk := look_none (W := w1.drew) (HT1.out.kept (fun _ _ => rfl)) k hk true
  have qt := (cell_of_block (k := 0) HT1.out.tab rfl).1
  have qp := (cell_of_box hp).1
  have qk0 := (cell_of_block (k := 0) hkk rfl).1; have qk1 := (cell_of_block (k := 1) hkk rfl).1; have qk2 := (cell_of_block (k := 2) hkk rfl).1; have qk3 := (cell_of_block (k := 3) hkk rfl).1
  have HP1 := Lib.hid hp; have HK1 := Lib.hid hkk; have HKN := Lib.hid hk; have HB1 := Lib.hid HB; have HSZ := Lib.hid hsz
  clear hp hkk HT0 HB hk hsz
  go_region
  clear qt qp qk0 qk1 qk2 qk3 hlk
  have HT2 : Hid (Tab w1.drew T m es clk O oc L) := Lib.hid (HT1.out.kept (fun _ _ => rfl))
  have HP2 : Hid (w1.drew.heap[w.heap.size]? = some (.cells #[.pointer (some ⟨T, 0, none⟩)] 25)) := Lib.hid HP1.out
  have HK2 : Hid (w1.drew.heap[w.heap.size + 1]? = some (.cells #[.int .i64 k.f, .int .i64 k.t, .int .i64 k.p, .int .i64 k.i] 79)) := Lib.hid HK1.out
  have HB2 := Lib.hid HB1.out.drew
  have HSZ2 : Hid (w1.drew.heap.size = w.heap.size + 2) := Lib.hid HSZ.out
  clear HT1 HP1 HK1 HB1 HSZ
  generalize w1.drew = w2 at *
  have qt := (cell_of_block (k := 0) HT2.out.tab rfl).1
  have qp := (cell_of_box HP2.out).1
  have hme := mapEq m
  go_upto_region 7 with fail
  clear qt hme
  have Hh3 := Lib.hid (alloc_new' w2 (.cells #[.int .i64 now, .bool false, .slice none 0 0, .slice none 0 0, .int .i64 0, .bool false, .int .i64 0, .bool false, .int .i64 0, .int .i64 0, .int .i64 0, .int .i64 0, .int .i64 0, .bool false, .bool false, .int .i64 0, .string ⟨#[]⟩] 83) (w.heap.size + 2) HSZ2.out)
  have HT3 := Lib.hid (HT2.out.below ((Below.refl _ _).alloc (Nat.le_refl _) (.cells #[.int .i64 now, .bool false, .slice none 0 0, .slice none 0 0, .int .i64 0, .bool false, .int .i64 0, .bool false, .int .i64 0, .int .i64 0, .int .i64 0, .int .i64 0, .int .i64 0, .bool false, .bool false, .int .i64 0, .string ⟨#[]⟩] 83)))
  have HP3 := Lib.hid (block_alloc HP2.out (.cells #[.int .i64 now, .bool false, .slice none 0 0, .slice none 0 0, .int .i64 0, .bool false, .int .i64 0, .bool false, .int .i64 0, .int .i64 0, .int .i64 0, .int .i64 0, .int .i64 0, .bool false, .bool false, .int .i64 0, .string ⟨#[]⟩] 83))
  have HK3 := Lib.hid (block_alloc HK2.out (.cells #[.int .i64 now, .bool false, .slice none 0 0, .slice none 0 0, .int .i64 0, .bool false, .int .i64 0, .bool false, .int .i64 0, .int .i64 0, .int .i64 0, .int .i64 0, .int .i64 0, .bool false, .bool false, .int .i64 0, .string ⟨#[]⟩] 83))
  have HB3 := Lib.hid (below_alloc (o := .cells #[.int .i64 now, .bool false, .slice none 0 0, .slice none 0 0, .int .i64 0, .bool false, .int .i64 0, .bool false, .int .i64 0, .int .i64 0, .int .i64 0, .int .i64 0, .int .i64 0, .bool false, .bool false, .int .i64 0, .string ⟨#[]⟩] 83) HB2.out)
  have HSZ3 : Hid ((w2.alloc (.cells #[.int .i64 now, .bool false, .slice none 0 0, .slice none 0 0, .int .i64 0, .bool false, .int .i64 0, .bool false, .int .i64 0, .int .i64 0, .int .i64 0, .int .i64 0, .int .i64 0, .bool false, .bool false, .int .i64 0, .string ⟨#[]⟩] 83)).heap.size = w.heap.size + 3) := Lib.hid (by have := HSZ2.out; simp; omega)
  rw [HSZ2.out]
  clear qp HT2 HP2 HK2 HB2 HSZ2
  generalize w2.alloc (.cells #[.int .i64 now, .bool false, .slice none 0 0, .slice none 0 0, .int .i64 0, .bool false, .int .i64 0, .bool false, .int .i64 0, .int .i64 0, .int .i64 0, .int .i64 0, .int .i64 0, .bool false, .bool false, .int .i64 0, .string ⟨#[]⟩] 83) = w3 at *
  have qt := (cell_of_block (k := 0) HT3.out.tab rfl).1
  have qp := (cell_of_box HP3.out).1
  have qk0 := (cell_of_block (k := 0) HK3.out rfl).1; have qk1 := (cell_of_block (k := 1) HK3.out rfl).1; have qk2 := (cell_of_block (k := 2) HK3.out rfl).1; have qk3 := (cell_of_block (k := 3) HK3.out rfl).1
  go_still_tail 6, (by kernel_rfl)
  change wpList _ _ _ _ _ w3.drew
  have hup := run_update_ky (W := w3.drew) k (.pointer (some ⟨w.heap.size + 2, 0, none⟩)) HT3.out.map HT3.out.ents HKN.out
  unfold tyM Ky.val at hup
  clear qt qp qk0 qk1 qk2 qk3
  obtain ⟨w4, hw4⟩ : ∃ W : World, W = { w3.drew with heap := w3.drew.heap.setIfInBounds m (.map (es.push { key := .agg #[.int .i64 k.f, .int .i64 k.t, .int .i64 k.p, .int .i64 k.i], val := .pointer (some ⟨w.heap.size + 2, 0, none⟩), born := clk }) (clk + 1)) } := ⟨_, rfl⟩
  rw [← hw4] at hup
  have HW4 := Lib.hid hw4; clear hw4
  go_upto_region 8 with fail
  have hw4 := HW4.out; clear HW4
  have hml := HT0x.out.lt (.inr (.inl rfl) : TOwn T m O L m); have hTl := HT0x.out.lt (.inl rfl : TOwn T m O L T)
  have HTT4 : Hid (w4.heap[T]? = some (.cells #[.map (some m), .slice O L.length oc] 72)) := Lib.hid (by rw [hw4]; exact block_setObj (W := w3.drew) HT3.out.tab HT3.out.tm)
  have HM4 : Hid (w4.heap[m]? = some (.map (es.push { key := .agg #[.int .i64 k.f, .int .i64 k.t, .int .i64 k.p, .int .i64 k.i], val := .pointer (some ⟨w.heap.size + 2, 0, none⟩), born := clk }) (clk + 1))) := Lib.hid (by rw [hw4]; exact block_setObj_same (W := w3.drew) HT3.out.map)
  have HP4 : Hid (w4.heap[w.heap.size]? = some (.cells #[.pointer (some ⟨T, 0, none⟩)] 25)) := Lib.hid (by rw [hw4]; exact block_setObj (W := w3.drew) HP3.out (by omega))
  have HK4 : Hid (w4.heap[w.heap.size + 1]? = some (.cells #[.int .i64 k.f, .int .i64 k.t, .int .i64 k.p, .int .i64 k.i] 79)) := Lib.hid (by rw [hw4]; exact block_setObj (W := w3.drew) HK3.out (by omega))
  have Hh4 : Hid (w4.heap[w.heap.size + 2]? = some (.cells #[.int .i64 now, .bool false, .slice none 0 0, .slice none 0 0, .int .i64 0, .bool false, .int .i64 0, .bool false, .int .i64 0, .int .i64 0, .int .i64 0, .int .i64 0, .int .i64 0, .bool false, .bool false, .int .i64 0, .string ⟨#[]⟩] 83)) := Lib.hid (by rw [hw4]; exact block_setObj (W := w3.drew) Hh3.out (by omega))
  have HSZ4 : Hid (w4.heap.size = w.heap.size + 3) := Lib.hid (by rw [hw4]; simp; exact HSZ3.out)
  have HO4 : Hid (Ord w4 O L.length oc (L.map (·.k))) := Lib.hid (HT3.out.ord.kept (fun a q => by
    rw [hw4]
    show (w3.drew.heap.setIfInBounds m _)[a.block]? = _
    rw [Array.getElem?_setIfInBounds_ne (fun q2 => (HT3.out.og a q).2 q2.symm)]; rfl))
  have HC4 : Hid (Chg (S3 T m O) w w4) := Lib.hid (by
    rw [hw4]
    have hc := (Chg.of_below (S := S3 T m O) HB3.out).drew
    exact ⟨hc.os, hc.tape, hc.output, by simpa using hc.size, fun q hq hn => by
      have hkm : q ≠ m := fun q2 => hn (.inr (.inl q2))
      show (w3.drew.heap.setIfInBounds m _)[q]? = _
      rw [Array.getElem?_setIfInBounds_ne (fun q2 => hkm q2.symm)]
      exact hc.block q hq hn⟩)
  clear hw4 hup Hh3 HT3 HP3 HK3 HB3 HSZ3
  obtain ⟨i0, hi, hz0, hz1, hz2⟩ := info_parts infoKy
  have Hown := Lib.hid (ord_owns HO4.out)
  have lt1 := blk_lt HTT4.out; have lt2 := blk_lt HP4.out; have lt3 := blk_lt HK4.out
  have qt := (cell_of_block (k := 1) HTT4.out rfl).1
  have qp := (cell_of_box HP4.out).1
  have qk0 := (cell_of_block (k := 0) HK4.out rfl).1; have qk1 := (cell_of_block (k := 1) HK4.out rfl).1; have qk2 := (cell_of_block (k := 2) HK4.out rfl).1; have qk3 := (cell_of_block (k := 3) HK4.out rfl).1
  have hob : Value.ownBlock (.slice O L.length oc) = O.map (·.block) := by cases O <;> rfl
  have HOB := Lib.hid hob; clear hob
  have HOT : Hid ((some T : Option Nat) ≠ O.map (·.block)) := Lib.hid (by
    intro e
    cases O with
    | none => cases e
    | some a => exact (HT0x.out.og a rfl).1 (by simpa using e.symm))
  have HOP : Hid ((some w.heap.size : Option Nat) ≠ O.map (·.block)) := Lib.hid (by
    intro e
    cases O with
    | none => cases e
    | some a => have := HT0x.out.ord.lt rfl; simp at e; omega)
  go_cut [47] (fun s47 wx => ∃ es clk g c, wx.heap[w.heap.size]? = some (.cells #[.pointer (some ⟨T, 0, none⟩)] 25) ∧ Tab wx T m es clk (some ⟨g, 0, none⟩) c (L ++ [newE k now (w.heap.size + 2)]) ∧ Chg (S3 T m O) w wx ∧ (O.map (·.block) = some g ∨ w.heap.size ≤ g))
  case first =>
    go_region_law (refine step_append_lies _ (by rfl) _ _ _ (by rfl) 0 79 i0 (.agg #[.int .i64 0, .int .i64 0, .int .i64 0, .int .i64 0]) 4 32 Try.underlying70 hi hz0 hz1 hz2 rfl (by decide) (.slice O L.length oc) L.length _ (by rfl) (Hown.out.alloc _) ⟨w4.heap.size, 0, none⟩ 1 1 [.int .i64 k.f, .int .i64 k.t, .int .i64 k.p, .int .i64 k.i] (by rfl) rfl (World.news_of_block (heap_alloc_new w4 _)) (by simp [Value.oneCell']) (by omega) (by unfold maxLen; omega) (by omega) (by simp) (w4.heap.size + 1) (by simp) ?_; intro g cap x5 hown5 hgrow5 hat5 hlt5; rw [HOB.out] at hgrow5 hat5; have hT5 := (hgrow5.block T (blk_lt (block_alloc HTT4.out _)) HOT.out).trans (block_alloc HTT4.out _); have q5 := (cell_of_block (k := 1) hT5 rfl).1; have z5 := (cell_of_block (k := 1) hT5 rfl).2; have hP5 := (hgrow5.block w.heap.size (blk_lt (block_alloc HP4.out _)) HOP.out).trans (block_alloc HP4.out _); have p5 := (cell_of_box hP5).1)
    all_goals
      go_wp2_with fail
      go_meet
      have hx5 : Chg (S3 T m O) w (x5.setCell ⟨T, 1, none⟩ (.slice (some ⟨g, 0, none⟩) (L.length + 1) cap)) := ((HC4.out.alloc _).drew.grown hgrow5 (fun q e => by
        cases O with
        | none => cases e
        | some a => exact .inl (.inr (.inr ⟨a, rfl, by simpa using e⟩)))).set (.inl (.inl rfl)) _
      have hatx : O.map (·.block) = some g ∨ w.heap.size + 3 ≤ g := hat5.imp id (fun q => by have := HSZ4.out; omega)
      have hne : ∀ q : Nat, (some q : Option Nat) = O.map (·.block) → q < w.heap.size := fun q e => by
        cases O with
        | none => cases e
        | some a => have := HT0x.out.ord.lt rfl; simp at e; omega
      refine ⟨_, _, g, cap, block_set_other hP5 (by show T ≠ _; omega), tab_push HT0x.out HKN.out hT5 ((hgrow5.block m (blk_lt (block_alloc HM4.out _)) (fun e => by
        cases O with
        | none => cases e
        | some a => exact (HT0x.out.og a rfl).2 (by simpa using e.symm))).trans (block_alloc HM4.out _)) ((hgrow5.block _ (blk_lt (block_alloc Hh4.out _)) (fun e => by have := hne _ e; omega)).trans (block_alloc Hh4.out _)) hown5 hx5 (hatx.imp id (fun q => by omega)) (by omega) ?_, hx5, hatx.imp id (fun q => by omega)⟩
      rcases hatx with q | q
      · have := hne g q.symm; omega
      · omega
  case rest =>
    obtain ⟨es', clk', g, c, hPx, hTx, hCx, hax⟩ := hcut
    have HTX := Lib.hid hTx; have HCX := Lib.hid hCx; have HAX := Lib.hid hax
    have qpx := (cell_of_box hPx).1
    have qtx := (cell_of_block (k := 1) hTx.tab rfl).1
    have hl9 : (L.length : Int) + 1 ≤ 8 := by omega
    have hl0 : decide ((8 : Int) < (L.length : Int) + 1) = false := by simp; omega
    rw [List.length_append, List.length_cons, List.length_nil] at qtx
    clear hPx hTx hCx hax qt qp qk0 qk1 qk2 qk3 HTT4 HM4 HP4 HK4 Hh4 HSZ4 HO4 HC4 hi hz0 hz1 hz2 Hown lt1 lt2 lt3 HOB HOT HOP h hL
    go_wp2_with fail
    go_ret
    exact ⟨es', clk', g, c, rfl, HTX.out, HCX.out, HAX.out⟩
end Go.Proofs.Ytmeldgnjgogacaa.Re
