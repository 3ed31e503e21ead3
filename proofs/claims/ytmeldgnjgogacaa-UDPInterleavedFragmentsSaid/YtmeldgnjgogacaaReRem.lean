/-
  The contract of (*Table).remove.
-/
import Derived.Test.YtmeldgnjgogacaaReTab
import Derived.Test.YtmeldgnjgogacaaMapInt
namespace Go.Proofs.Ytmeldgnjgogacaa.Re
set_option maxRecDepth 100000
open Go.RowKit Go.Proofs.Ytmeldgnjgogacaa.Wire
open Go.Proofs.Ytmeldgnjgogacaa.Ip (Pk)

theorem key_tests (b g : Nat) (k : Ky) (l : List Ky) (w : World) (hb : w.heap[b]? = some (.cells #[.int .i64 k.f, .int .i64 k.t, .int .i64 k.p, .int .i64 k.i] 79 (0, 0))) (hne : b ≠ g) :
    Tests 62 #[.pointer (some ⟨b, 0, none⟩)] (fun e => decide (e = k)) g l w := by
  intro e he W hW
  obtain ⟨⟨c0, c1, c2, c3⟩, -⟩ := cells4 (bblock_only hW hb hne)
  have hq := eqKy e k
  clear he hb hW
  show Calls _ _ #[enV e, .pointer (some ⟨b, 0, none⟩)] _ _
  unfold enV
  generalize hd : decide (e = k) = d at hq
  have HD := Lib.hid hd; clear hd
  have HB := (Below.refl W.heap.size W).alloc (Nat.le_refl _) (.cells #[.int .i64 e.f, .int .i64 e.t, .int .i64 e.p, .int .i64 e.i] 79)
  have c0' := cell_alloc' (.cells #[.int .i64 e.f, .int .i64 e.t, .int .i64 e.p, .int .i64 e.i] 79) c0
  have c1' := cell_alloc' (.cells #[.int .i64 e.f, .int .i64 e.t, .int .i64 e.p, .int .i64 e.i] 79) c1
  have c2' := cell_alloc' (.cells #[.int .i64 e.f, .int .i64 e.t, .int .i64 e.p, .int .i64 e.i] 79) c2
  have c3' := cell_alloc' (.cells #[.int .i64 e.f, .int .i64 e.t, .int .i64 e.p, .int .i64 e.i] 79) c3
  go_enter Try.func62, Try.ntmps62
  go_wp2_with fail
  go_ret
  refine ⟨?_, HB⟩
  show Ending.returned _ = .returned (.bool (decide (e = k)))
  rw [HD.out]; rfl
theorem keep_erase : ∀ (ks : List Ky) (j : Nat) (k : Ky), ks.Nodup → ks[j]? = some k → keepL (fun e => decide (e = k)) ks = ks.eraseIdx j
  | [], j, k, _, h => by simp at h
  | x :: ks, 0, k, hn, h => by
    simp at h; subst h
    unfold keepL
    rw [List.filter_cons_of_neg (by simp)]
    rw [List.filter_eq_self.2]
    · rfl
    · intro e he
      have : e ≠ x := fun q => (List.nodup_cons.1 hn).1 (q ▸ he)
      simp [this]
  | x :: ks, j + 1, k, hn, h => by
    have hx : x ≠ k := fun q => (List.nodup_cons.1 hn).1 (q ▸ List.mem_of_getElem? (by simpa using h))
    have ih := keep_erase ks j k (List.nodup_cons.1 hn).2 (by simpa using h)
    unfold keepL at ih ⊢
    rw [List.filter_cons_of_pos (by simp [hx]), ih]; rfl
def S3 (T m : Nat) (O : Option Addr) (k : Nat) : Prop := k = T ∨ k = m ∨ ∃ a, O = some a ∧ a.block = k
theorem erase_get {α : Type} (L : List α) (j a : Nat) : (L.eraseIdx j)[a]? = if a < j then L[a]? else L[a + 1]? := by
  rw [List.getElem?_eraseIdx]
/-- an entry is struck out -/
theorem tab_erase {w w4 : World} {T m g oc clk : Nat} {es : Array MapEntry} {L : List En} {j : Nat} (h : Tab w T m es clk (some ⟨g, 0, none⟩) oc L)
    (hc5 : Chg (S3 T m (some ⟨g, 0, none⟩)) w (w4.setCell ⟨T, 1, none⟩ (.slice (some ⟨g, 0, none⟩) (L.eraseIdx j).length oc)))
    (hT : w4.heap[T]? = some (.cells #[.map (some m), .slice (some ⟨g, 0, none⟩) L.length oc] 72)) (hM : w4.heap[m]? = some (.map (es.eraseIdxIfInBounds j) clk))
    (hR : RowP w4 g oc 79 (fun i k => ((L.eraseIdx j).map (·.k))[i]? = some k)) (hlc : L.length ≤ oc) (hoc : oc ≤ maxLen) :
    Tab (w4.setCell ⟨T, 1, none⟩ (.slice (some ⟨g, 0, none⟩) (L.eraseIdx j).length oc)) T m (es.eraseIdxIfInBounds j) clk (some ⟨g, 0, none⟩) oc (L.eraseIdx j) := by
  have hgT := (h.og _ rfl).1
  have hsub : (L.eraseIdx j).Sublist L := List.eraseIdx_sublist L j
  have hes : (es.eraseIdxIfInBounds j).toList = es.toList.eraseIdx j := by simp
  refine ⟨?_, ?_, ?_, ?_, ?_, ?_, ?_, h.tm, h.og, ?_, ?_⟩
  · rw [block_setCell (k := 1) (v := .slice (some ⟨g, 0, none⟩) (L.eraseIdx j).length oc) hT]; simp
  · exact block_set_other hM (by exact h.tm)
  · rw [map_erase, map_erase]; exact h.ents.erase j
  · rw [map_erase]; exact h.nod.sublist (List.eraseIdx_sublist _ _)
  · rw [hes]
    refine ⟨fun x hx => h.stamp.1 x ((List.eraseIdx_sublist _ _).subset hx), ?_⟩
    rw [map_erase]
    exact h.stamp.2.sublist (List.eraseIdx_sublist _ _)
  · refine .inr ⟨g, rfl, hR.setOther (by exact fun q => hgT q.symm) _, by simp, ?_, hoc⟩
    have := hsub.length_le; omega
  · intro e he
    have hok := h.half e (hsub.subset he)
    refine ⟨hok.1.kept (fun k q => hc5.block k (hok.1.lt q) ?_), hok.2⟩
    have := h.eo e (hsub.subset he) k q
    rintro (q1 | q1 | ⟨a, q1, q2⟩)
    · exact this.1 q1
    · exact this.2.1 q1
    · exact this.2.2 a q1 q2
  · exact fun e he k q => h.eo e (hsub.subset he) k q
  · intro a b e f ha hb hab k q
    rw [erase_get] at ha hb
    refine h.ee (if a < j then a else a + 1) (if b < j then b else b + 1) e f ?_ ?_ ?_ k q
    · split <;> simp_all
    · split <;> simp_all
    · split <;> split <;> omega
def RemPost (w : World) (T m : Nat) (clk : Nat) (O : Option Addr) (oc : Nat) (L : List En) (x : Ending) (w' : World) : Prop := x = .returned (.tuple #[]) ∧ ∃ es, Tab w' T m es clk O oc L ∧ Chg (S3 T m O) w w'
set_option maxHeartbeats 4000000 in
theorem remove_any (T m : Nat) (es : Array MapEntry) (clk : Nat) (O : Option Addr) (oc : Nat) (L : List En) (j : Nat) (e : En) (hj : L[j]? = some e) (w : World) (h : Tab w T m es clk O oc L) (hL : L.length ≤ 1000) :
    Calls Try.prog 39 #[.pointer (some ⟨T, 0, none⟩), .agg #[.int .i64 e.k.f, .int .i64 e.k.t, .int .i64 e.k.p, .int .i64 e.k.i]] w (RemPost w T m clk O oc (L.eraseIdx j)) := by
  have hkj : (L.map (·.k))[j]? = some e.k := by simp [hj]
  obtain ⟨g, rfl, hrow, hln, hlc, hoc⟩ : ∃ g, O = some ⟨g, 0, none⟩ ∧ RowP w g oc 79 (fun i k => (L.map (·.k))[i]? = some k) ∧ L.length = (L.map (·.k)).length ∧ L.length ≤ oc ∧ oc ≤ maxLen := by
    rcases h.ord with ⟨-, q, -⟩ | q
    · have := (List.getElem?_eq_some_iff.1 hj).1; omega
    · exact q
  have hgT := (h.og _ rfl).1; have hgm := (h.og _ rfl).2
  have HX := Lib.hid h; have HJ := Lib.hid hj; have HKJ := Lib.hid hkj
  have hTl := h.lt (.inl rfl : TOwn T m (some ⟨g, 0, none⟩) L T); have hml := h.lt (.inr (.inl rfl) : TOwn T m (some ⟨g, 0, none⟩) L m); have hgl := hrow.lt
  have htm := h.tm
  obtain ⟨o1, ho1⟩ : ∃ o : Obj, o = .cells #[.int .i64 e.k.f, .int .i64 e.k.t, .int .i64 e.k.p, .int .i64 e.k.i] 79 := ⟨_, rfl⟩
  have HT1 := Lib.hid (block_alloc h.tab o1)
  have HM1 := Lib.hid (block_alloc h.map o1)
  have HR1 := Lib.hid (hrow.alloc o1)
  have HK1 := Lib.hid (alloc_new w o1)
  rw [ho1] at HT1 HM1 HR1 HK1
  clear ho1 hkj hj hln h hrow
  go_enter Try.func39, Try.ntmps39
  go_upto_region 1 with fail
  have HC1 : Hid (Chg (S3 T m (some ⟨g, 0, none⟩)) w (w.alloc (.cells #[.int .i64 e.k.f, .int .i64 e.k.t, .int .i64 e.k.p, .int .i64 e.k.i] 79))) := Lib.hid ((Chg.refl _ _).alloc _)
  generalize w.alloc (.cells #[.int .i64 e.k.f, .int .i64 e.k.t, .int .i64 e.k.p, .int .i64 e.k.i] 79) = w1 at *
  have qt0 := (cell_of_block (k := 0) HT1.out rfl).1
  have qk0 := (cell_of_block (k := 0) HK1.out rfl).1; have qk1 := (cell_of_block (k := 1) HK1.out rfl).1; have qk2 := (cell_of_block (k := 2) HK1.out rfl).1; have qk3 := (cell_of_block (k := 3) HK1.out rfl).1
  go_still_tail 5, (by kernel_rfl)
  change wpList _ _ _ _ _ w1.drew
  have hdel := fun ty => run_delete_ky (W := w1.drew) e.k ty HM1.out HX.out.ents HX.out.nod HKJ.out
  unfold tyM Ky.val at hdel
  clear qt0 qk0 qk1 qk2 qk3
  obtain ⟨W3, hW3⟩ : ∃ W3 : World, W3 = { w1.drew with heap := w1.drew.heap.setIfInBounds m (.map (es.eraseIdxIfInBounds j) clk) } := ⟨_, rfl⟩
  rw [← hW3] at hdel
  have HT3 : Hid (W3.heap[T]? = some (.cells #[.map (some m), .slice (some ⟨g, 0, none⟩) L.length oc] 72)) := Lib.hid (by rw [hW3]; exact block_setObj (W := w1.drew) HT1.out htm)
  have HM3 : Hid (W3.heap[m]? = some (.map (es.eraseIdxIfInBounds j) clk)) := Lib.hid (by rw [hW3]; exact block_setObj_same (W := w1.drew) HM1.out)
  have HK3 : Hid (W3.heap[w.heap.size]? = some (.cells #[.int .i64 e.k.f, .int .i64 e.k.t, .int .i64 e.k.p, .int .i64 e.k.i] 79)) := Lib.hid (by rw [hW3]; exact block_setObj (W := w1.drew) HK1.out (by omega))
  have HR3 : Hid (RowP W3 g oc 79 (fun i k => (L.map (·.k))[i]? = some k)) := Lib.hid (by
    obtain ⟨cur, h1, h2⟩ := HR1.out
    exact ⟨cur, by rw [hW3]; exact block_setObj (W := w1.drew) h1 hgm, h2⟩)
  have HC3 : Hid (Chg (S3 T m (some ⟨g, 0, none⟩)) w W3) := Lib.hid (by
    rw [hW3]
    have hc := HC1.out.drew
    exact ⟨hc.os, hc.tape, hc.output, by simpa using hc.size, fun k hk hn => by
      have hkm : k ≠ m := fun q => hn (.inr (.inl q))
      show (w1.drew.heap.setIfInBounds m _)[k]? = _
      rw [Array.getElem?_setIfInBounds_ne (fun q => hkm q.symm)]
      exact hc.block k hk hn⟩)
  clear hW3 HT1 HM1 HK1 HR1 HC1
  have qt0 := (cell_of_block (k := 1) HT3.out rfl).1
  have HD : Hid (Calls Try.prog 61 #[.slice (some ⟨g, 0, none⟩) L.length oc, .func (.func 62) #[] #[.pointer (some ⟨w.heap.size, 0, none⟩)]] W3 fun x w' =>
      x = .returned (.slice (some ⟨g, 0, none⟩) (L.eraseIdx j).length oc) ∧ RowP w' g oc 79 (fun i k => ((L.eraseIdx j).map (·.k))[i]? = some k) ∧ W3.grownBy w' (some g)) := Lib.hid (by
    have hd := delete_any 62 #[.pointer (some ⟨w.heap.size, 0, none⟩)] (enters_of Try.func62 (by kernel_rfl) rfl) (fun x => decide (x = e.k)) g oc (L.map (·.k)) W3 (by simpa using hlc) (by simp; omega) HR3.out (key_tests w.heap.size g e.k _ W3 HK3.out (by omega))
    rw [keep_erase _ j e.k HX.out.nod HKJ.out, ← map_erase] at hd
    simp only [List.length_map] at hd
    exact hd)
  go_wp2_with (go_at_call 61; refine HD.out.mono ?_; rintro x w4 ⟨rfl, hr4, hg4⟩; have HR4 := Lib.hid hr4; have HG4 := Lib.hid hg4; have HT4 := Lib.hid (bblock_only hg4 HT3.out (fun q => hgT q.symm)); have qt4 := (cell_of_block (k := 1) HT4.out rfl).1; have zt4 := (cell_of_block (k := 1) HT4.out rfl).2; clear hr4 hg4)
  go_end0
  have hc5 : Chg (S3 T m (some ⟨g, 0, none⟩)) w (w4.setCell ⟨T, 1, none⟩ (.slice (some ⟨g, 0, none⟩) (L.eraseIdx j).length oc)) := (HC3.out.grown HG4.out (fun k q => by cases q; exact .inl (.inr (.inr ⟨_, rfl, rfl⟩)))).set (.inl (.inl rfl)) _
  exact ⟨rfl, _, tab_erase HX.out hc5 HT4.out ((HG4.out.block m (blk_lt HM3.out) (fun q => hgm (by cases q; rfl))).trans HM3.out) HR4.out hlc hoc, hc5⟩
end Go.Proofs.Ytmeldgnjgogacaa.Re
