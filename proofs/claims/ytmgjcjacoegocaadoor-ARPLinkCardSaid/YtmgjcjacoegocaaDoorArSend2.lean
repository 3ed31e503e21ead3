/-
  The contract of (*Table).Send at an address that is being resolved: the packet is appended, the oldest is dropped behind four.
-/
import Derived.Test.YtmgjcjacoegocaaDoorArSend
import Derived.Test.YtmgjcjacoegocaaDoorShelf
import Derived.Test.YtmgjcjacoegocaaDoorStore
namespace Go.Proofs.YtmgjcjacoegocaaDoor.Ar
set_option maxRecDepth 100000
open Go.RowKit Go.Proofs.YtmgjcjacoegocaaDoor.Wire

theorem setCells_stN (B : Nat) : ∀ (vs : List Value) (k : Nat) (W : World), W.setCells B k vs = stN W B k vs
  | [], _, _ => rfl
  | v :: vs, k, W => by
    show (W.setCell ⟨B, k, none⟩ v).setCells B (k + 1) vs = _
    rw [setCells_stN B vs (k + 1)]
    rfl
theorem stN_chg {B : Nat} : ∀ (vs : List Value) (k : Nat) (w : World), Chg (fun q => q = B) w (stN w B k vs)
  | [], _, w => Chg.refl _ w
  | v :: vs, k, w => ((Chg.setCell (p := ⟨B, k, none⟩) (Chg.refl (fun q => q = B) w) (.inl rfl) v).trans (stN_chg vs (k + 1) _) (fun _ e => .inl e))
/-- the row behind the removal of its first element -/
theorem trow_drop {W : World} {g cap : Nat} {l : List ByteArray} {q : Nat} (h : TRow W 0 (some ⟨g, 0, none⟩) cap l) (hl : 1 ≤ l.length) {zs : List Value} (hz : zs = (l.drop 1).map (fun s => Value.string s) ++ [.string ⟨#[]⟩]) :
    TRow ((W.drewN q).setCells g 0 zs) 0 (some ⟨g, 0, none⟩) cap (l.drop 1) := by
  rw [setCells_stN]
  obtain ⟨h0, h2⟩ := h
  rcases h2 with ⟨e, -⟩ | ⟨g', cap', cur, e, h1, h2, h3, h4, h5, h6⟩
  · cases e
  · injection e with e1 e2 e3
    injection e1 with e1; injection e1 with e1
    subst e1; subst e3
    have hzl : zs.length = l.length := by rw [hz]; simp; omega
    obtain ⟨arr', q1, q2, -, q4⟩ := stN_block zs (W.drewN q) 0 cur h2 (by rw [hzl, h5]; omega)
    refine ⟨encs_length 1 strC (fun _ => rfl) _, .inr ⟨g, cap, arr', rfl, Nat.zero_le _, q1, by simp; omega, h4, by rw [q2]; exact h5, ?_⟩⟩
    apply List.ext_getElem?
    intro i
    have hfl : (l.drop 1).flatMap strC = (l.drop 1).map (fun s => Value.string s) := by
      induction l.drop 1 with
      | nil => rfl
      | cons a l ih => simp [ih]
    rw [hfl]
    by_cases hi : i < (l.drop 1).length
    · rw [List.getElem?_take_of_lt (by omega), Array.getElem?_toList]
      have hv : zs[i]? = some (.string (l.drop 1)[i]) := by
        rw [hz, List.getElem?_append_left (by simpa using hi)]
        simp
      have := q4 i _ hv
      rw [Nat.zero_add] at this
      rw [this, List.getElem?_map, List.getElem?_eq_getElem hi]; rfl
    · rw [List.getElem?_eq_none (by simp at hi ⊢; omega), List.getElem?_eq_none (by simp at hi ⊢; omega)]
theorem strs_list (l : List ByteArray) (n : Nat) (hn : l.length = n) : ((Lib.strsOf (fun i => l.getD i ⟨#[]⟩) n).take 0 ++ (Lib.strsOf (fun i => l.getD i ⟨#[]⟩) n).drop 1 ++ List.replicate (1 - 0) []).map (fun (l : List UInt8) => Value.string ⟨l.toArray⟩) = (l.drop 1).map (fun s => Value.string s) ++ [.string ⟨#[]⟩] := by
  have e : (Lib.strsOf (fun i => l.getD i ⟨#[]⟩) n) = l.map (fun s => s.data.toList) := by
    unfold Lib.strsOf
    apply List.ext_getElem?
    intro i
    simp only [List.getElem?_map]
    by_cases h : i < n
    · rw [List.getElem?_eq_getElem (by simpa using h), List.getElem?_eq_getElem (show i < l.length by omega)]
      simp [List.getD, List.getElem?_eq_getElem (show i < l.length by omega)]
    · rw [List.getElem?_eq_none (by simp; omega), List.getElem?_eq_none (by omega)]; rfl
  rw [e]
  have e2 : ((fun (l : List UInt8) => Value.string ⟨l.toArray⟩) ∘ fun s : ByteArray => s.data.toList) = fun s => Value.string s := by funext x; rfl
  simp [e2]
theorem last4_no {l : List ByteArray} (h : l.length ≤ 4) : last4 l = l := by unfold last4; rw [if_neg (by omega)]
theorem last4_yes {l : List ByteArray} (h : l.length = 5) : last4 l = l.drop 1 := by unfold last4; rw [if_pos (by omega)]
set_option maxHeartbeats 8000000 in
theorem send_inc (T : Nat) (m : Option Nat) (es : Array MapEntry) (clk : Nat) (c : Tc) (L : List En) (now to_ : Int) (s : ByteArray) (w : World) (h : Tab w T m es clk c L) (hs : s.size ≤ 9223372036854775807) (hok : ¬ (uniB to_ = false ∨ to_ = c.own ∨ 1024 < s.size)) {j : Nat} {held : List ByteArray} {sent first last : Int} {eb : Nat} {Hb : Option Addr} {hc : Nat} (hj : L[j]? = some ⟨to_, .inc held sent first last, eb, Hb, hc⟩) :
    Calls Tryd.prog 23 #[.pointer (some ⟨T, 0, none⟩), .int .i64 now, .int .i64 to_, .string s] w fun e w' => SendP T m L c w (upd (absL L) to_ (.inc (last4 (held ++ [s])) sent first last), 0, [], 0) e w' := by
  have hmem := List.mem_of_getElem? hj
  have hE := h.ok _ hmem
  obtain ⟨hblk, hrow, hne, hlen, hsent, hf1, hf2, hszs⟩ := hE
  obtain ⟨t0, -, t2, -⟩ := cellsT h
  have hl := h.look_some hj
  unfold En.val at hl
  dsimp only [Ev.ty] at hl hblk hrow hne
  have H1 := Lib.hid (uni_any to_)
  have h1 : uniB to_ = true := by cases q : uniB to_ <;> simp_all
  have e2 : (to_ == c.own) = false := beq_eq_false_iff_ne.2 (fun q => hok (.inr (.inl q)))
  have hs4 : s.size ≤ 1024 := Nat.le_of_not_lt (fun q => hok (.inr (.inr q)))
  have e3 : decide ((1024 : Int) < (s.size : Int)) = false := decide_eq_false (by omega)
  rw [h1] at H1
  obtain ⟨⟨r0, r1, r2, r3⟩, z0, z1, z2, z3⟩ := cells4 hblk
  have hT : T ≠ eb := fun e => (h.eo _ hmem eb (.inl rfl)).1 e.symm
  have hltb := blk_lt hblk
  have HT := Lib.hid h; have HJ := Lib.hid hj; have HBL := Lib.hid hblk; have HR := Lib.hid hrow; have HNE := Lib.hid hne; have HSZ := Lib.hid hszs
  obtain ⟨N, hN⟩ : ∃ N, held.length = N := ⟨_, rfl⟩
  have HN := Lib.hid hN
  rw [hN] at r0 hlen
  have y1 := ta_ri; have y2 := ta_ii
  obtain ⟨i0, hi, hz0, hz1, hz2⟩ := info_parts infoStr
  have HI := Lib.hid hi; have HZ0 := Lib.hid hz0; have HZ1 := Lib.hid hz1; have HZ2 := Lib.hid hz2
  have hOw : w.ownsRow 0 9 1 (.slice Hb N hc) N (held.flatMap strC) := by have := HR.out; unfold TRow SRow at this; rw [hN] at this; exact this
  have HOW := Lib.hid hOw
  clear h hj hmem hok h1 hblk hrow hne hN hi hz0 hz1 hz2 hOw hszs
  go_enter Tryd.func23, Tryd.ntmps23
  go_upto_region 13 with (first | (go_at_call 43; (with_reducible refine (H1.out _).mono ?_); rintro e w' ⟨rfl, rfl⟩) | (at_builtin; refine wpList_append_lies _ rfl (.tmp 55) (.tmp 57) 46 rfl 0 9 i0 (.string ⟨#[]⟩) 1 16 Tryd.underlying46 HI.out HZ0.out HZ1.out HZ2.out rfl (by decide) (.slice Hb N hc) N _ rfl (HOW.out.alloc _) ⟨w.heap.size, 0, none⟩ 1 1 [.string s] rfl rfl (World.news_of_block (heap_alloc_new w _)) (by simp [Value.oneCell']) (by omega) (by unfold maxLen; omega) (by omega) (by simp) (w.heap.size + 1) (by simp) ?_; intro g cap w7 hown hgrow hat hlt; have HB7 := Lib.hid ((hgrow.block eb (by simp; omega) (fun e => by obtain ⟨a, e1, e2⟩ := ob_bk e.symm; exact HNE.out a e1 e2)).trans (block_alloc HBL.out _)); obtain ⟨⟨s0, -, -, -⟩, x0, -, -, -⟩ := cells4 HB7.out))
  obtain ⟨l, hll⟩ : ∃ l, held ++ [s] = l := ⟨_, rfl⟩
  have hlen5 : l.length = N + 1 := by rw [← hll]; simp [HN.out]
  have hgne : g ≠ eb := by
    rcases hat with q | q
    · obtain ⟨a, e1, e2⟩ := ob_bk q
      rw [← e2]; exact HNE.out a e1
    · omega
  have hgown : ∀ q, q = g → (∃ a, Hb = some a ∧ a.block = q) ∨ w.heap.size ≤ q := by
    rintro q rfl
    rcases hat with q | q
    · exact .inl (ob_bk q)
    · exact .inr (by omega)
  have hrow7 : TRow w7 0 (some ⟨g, 0, none⟩) cap l := by
    rw [← hll]
    exact SRow.app (x := s) (by rw [HN.out]; exact hown)
  have hch7 : Chg (fun q => q = eb ∨ ∃ a, Hb = some a ∧ a.block = q) w w7 := ((Chg.refl _ w).alloc _).trans (S' := fun q => ∃ a, Hb = some a ∧ a.block = q) (Chg.grown hgrow (fun q e => ob_bk e)) (fun q hq => .inl (.inr hq))
  have hch8 : Chg (fun q => q = eb ∨ ∃ a, Hb = some a ∧ a.block = q) w (World.setCell w7 ⟨eb, 0, none⟩ (.slice (some ⟨g, 0, none⟩) (N + 1) cap)) := Chg.setCell (p := ⟨eb, 0, none⟩) hch7 (.inl (.inl rfl)) _
  have hb8 : (World.setCell w7 ⟨eb, 0, none⟩ (.slice (some ⟨g, 0, none⟩) (N + 1) cap)).heap[eb]? = some (.cells #[.slice (some ⟨g, 0, none⟩) (N + 1) cap, .int .i64 sent, .int .i64 first, .int .i64 last] 135) := cells_eq (block_setCell (k := 0) (v := .slice (some ⟨g, 0, none⟩) (N + 1) cap) HB7.out) (by simp)
  have hr8 : TRow (World.setCell w7 ⟨eb, 0, none⟩ (.slice (some ⟨g, 0, none⟩) (N + 1) cap)) 0 (some ⟨g, 0, none⟩) cap l := hrow7.kept (fun a e => by cases e; exact Below.heap_setCell _ _ _ _ (by show g ≠ eb; exact hgne))
  have HC8 := Lib.hid hch8; have HB8 := Lib.hid hb8; have HR8 := Lib.hid hr8; have HGO := Lib.hid hgown; have HLL := Lib.hid hll; have HSL : Hid (∀ x ∈ l, x.size ≤ 1024) := Lib.hid (fun x hx => by
    rw [← hll] at hx
    rcases List.mem_append.1 hx with q | q
    · exact HSZ.out x q
    · simp at q; subst q; exact hs4)
  clear hl H1 e2 e3 r0 r1 r2 r3 z0 z1 z2 z3 hown hgrow hat hlt HB7 s0 x0 hrow7 hch7 hch8 hb8 hr8 hgown y1 y2 t0 t2 HOW HI HZ0 HZ1 HZ2 hll
  generalize World.setCell w7 ⟨eb, 0, none⟩ (.slice (some ⟨g, 0, none⟩) (N + 1) cap) = w8 at *
  obtain ⟨⟨r0, -, -, -⟩, z0, -, -, -⟩ := cells4 HB8.out
  have fin : ∀ (W : World) (l' : List ByteArray), l'.length ≤ 4 → (∀ x ∈ l', x.size ≤ 1024) → W.heap[eb]? = some (.cells #[.slice (some ⟨g, 0, none⟩) l'.length cap, .int .i64 sent, .int .i64 first, .int .i64 last] 135) → TRow W 0 (some ⟨g, 0, none⟩) cap l' → Chg (fun q => q = eb ∨ ∃ a, Hb = some a ∧ a.block = q) w W → last4 (held ++ [s]) = l' → SendP T m L c w (upd (absL L) to_ (.inc (last4 (held ++ [s])) sent first last), 0, [], 0) (.returned (.tuple #[.int .i64 0, .slice none 0 0, .int .i64 0])) W := by
    intro W l' h1 h2 h3 h4 h5 h6
    rw [h6]
    obtain ⟨hT9, hown9⟩ := HT.out.setE (S := fun q => q = eb ∨ ∃ a, Hb = some a ∧ a.block = q) (W' := W) HJ.out (e' := ⟨to_, .inc l' sent first last, eb, some ⟨g, 0, none⟩, cap⟩) rfl rfl ⟨h3, h4, fun a e => by cases e; exact hgne, h1, hsent, hf1, hf2, h2⟩ h5 (fun q e => e) (fun q hq => by
      rcases hq with e | ⟨a, e, e2⟩
      · exact .inl (.inl e)
      · cases e; exact (HGO.out q e2.symm).imp .inr id)
    have hmem := List.mem_of_getElem? HJ.out
    exact ⟨none, 0, m, es, clk, _, rfl, SRow.nil _ _ _ _ _, hT9, abs_set HT.out.nod HJ.out rfl, h5.mono (fun q e => .inr (.inr ⟨_, hmem, e⟩)), fun q hq => ⟨hown9 q hq, bk_none q⟩⟩
  have FIN := Lib.hid fin
  clear fin
  by_cases h4 : N + 1 ≤ 4
  · have d4 : decide ((4 : Int) < ((N + 1 : Nat) : Int)) = false := decide_eq_false (by omega)
    go_wp2_with fail
    go_ret3
    exact FIN.out w8 l (by omega) HSL.out (by rw [hlen5]; exact HB8.out) HR8.out HC8.out (by rw [HLL.out]; exact last4_no (by omega))
  · obtain rfl : N = 4 := by omega
    have hcp : 5 ≤ cap := by have := HR8.out.cap; omega
    have hcm : cap ≤ 9223372036854775807 := by
      rcases HR8.out.2 with ⟨e, -⟩ | ⟨g', cap', cur, e, -, -, -, q, -⟩
      · cases e
      · injection e with e1 e2 e3; unfold maxLen at q; omega
    have hgl : g < w8.heap.size := (HR8.out.bk rfl).2
    have hcell : ∀ i, i < 5 → w8.cell? ⟨g, 0 + i, none⟩ = some (.string ((fun i => l.getD i ⟨#[]⟩) i)) := fun i hi => by
      have hi' : l[i]? = some (l.getD i ⟨#[]⟩) := by rw [List.getD_eq_getElem?_getD, List.getElem?_eq_getElem (by omega)]; rfl
      have := HR8.out.cell (fun _ => rfl) rfl hi' (r := 0) (by omega) rfl
      simpa using this
    have hfr : ∀ i, i < 5 → w8.frozen? ⟨g, 0 + i, none⟩ = false := fun i hi => by
      rcases HR8.out.2 with ⟨e, -⟩ | ⟨g', cap', cur, e, -, q, -, -, q5, -⟩
      · cases e
      · injection e with e1 e2 e3; injection e1 with e1; injection e1 with e1
        subst e1; subst e3
        exact (cell_of_block q (List.getElem?_eq_getElem (show 0 + i < cur.size by omega) |> fun _ => Array.getElem?_eq_getElem (show 0 + i < cur.size by omega))).2
    have HDEL := Lib.hid (Tryd.slices_Delete_string_cells g 0 5 cap 0 1 (fun i => l.getD i ⟨#[]⟩) w8 hcp hcm (by omega) (by omega) hcell hfr)
    clear hcell hfr
    go_wp2_with fail
    refine HDEL.out.mono ?_
    rintro e w9 ⟨rfl, q, hw9⟩
    have hsl := strs_list l 5 hlen5
    have hr9 : TRow w9 0 (some ⟨g, 0, none⟩) cap (l.drop 1) := by
      rw [hw9]
      exact trow_drop HR8.out (by omega) hsl
    have hc9 : Chg (fun q => q = g) w8 w9 := by
      rw [hw9, setCells_stN]
      exact (Chg.trans (S := fun q => q = g) (S' := fun q => q = g) (⟨rfl, rfl, rfl, Nat.le_refl _, fun _ _ _ => rfl⟩ : Chg (fun q => q = g) w8 (w8.drewN q)) (stN_chg _ _ _) (fun _ e => .inl e))
    have hlt8 : eb < w8.heap.size := blk_lt HB8.out
    have hb9 : w9.heap[eb]? = _ := (hc9.block eb hlt8 (fun e => hgne e.symm)).trans HB8.out
    have hc09 : Chg (fun q => q = eb ∨ ∃ a, Hb = some a ∧ a.block = q) w w9 := HC8.out.trans hc9 (fun q e => (HGO.out q e).imp .inr id)
    have HR9 := Lib.hid hr9; have HC9 := Lib.hid hc09; have HB9 := Lib.hid hb9
    clear hw9 hsl hr9 hc9 hc09 hb9 r0 z0 HDEL
    obtain ⟨⟨r0, -, -, -⟩, z0, -, -, -⟩ := cells4 HB9.out
    go_wp2_with fail
    go_ret3
    refine FIN.out _ (l.drop 1) (by simp; omega) (fun x hx => HSL.out x (List.mem_of_mem_drop hx)) ?_ (HR9.out.kept (fun a e => by cases e; exact Below.heap_setCell _ _ _ _ (by show g ≠ eb; exact hgne))) (Chg.setCell (p := ⟨eb, 0, none⟩) HC9.out (.inl (.inl rfl)) _) (by rw [HLL.out]; exact last4_yes hlen5)
    exact cells_eq (block_setCell (k := 0) HB9.out) (by simp; omega)
end Go.Proofs.YtmgjcjacoegocaaDoor.Ar
