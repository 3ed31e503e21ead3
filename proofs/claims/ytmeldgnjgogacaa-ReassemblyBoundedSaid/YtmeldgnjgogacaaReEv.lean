/-
  The contract of (*Table).find at a key that is not there, where the table is full: the oldest datagram is removed.
-/
import Derived.Deep.CutRange
import Derived.Test.YtmeldgnjgogacaaReTick
import Derived.Test.YtmeldgnjgogacaaReFind2
import Derived.BigFrameIn
namespace Go.Proofs.Ytmeldgnjgogacaa.Re
set_option maxRecDepth 100000
open Go.RowKit Go.Proofs.Ytmeldgnjgogacaa.Wire
open Go.Proofs.Ytmeldgnjgogacaa.Ip (Pk)

attribute [local go_sem] Oper.semAt_some
theorem wp_only {P : Program} {cd : Code} {K : Act → World → Prop} {R : Exit → Act → World → Prop} {a : Act} {w : World} (h : cd.wp P (Exit.then K (fun _ _ _ => False)) a w) : cd.wp P (Exit.then K R) a w :=
  (wpIn_wide (n := 9)).1 (wpIn_mono ((wpIn_wide (n := 9)).2 h) (fun e a w q => by
    cases e with
    | normal => exact q
    | _ => exact q.elim))
/-- the state of the range over the datagrams: only its first round is reached -/
structure ES (w : World) (z T m clk : Nat) (O : Option Addr) (g c : Nat) (L : List En) (f : Nat) (o : Obj) (W : World) : Prop where
  tab : ∃ es, Tab W T m es clk (some ⟨g, 0, none⟩) c L
  chg : Chg (S3 T m O) w W
  b0 : W.heap[w.heap.size]? = some (.cells #[.pointer (some ⟨T, 0, none⟩)] 25)
  bi : W.heap[z]? = some (.cells #[.pointer (some ⟨T, 0, none⟩)] 25)
  fo : W.heap[f]? = some o
  big : z + 3 ≤ W.heap.size
  fl : z + 1 ≤ f ∧ f ≠ z + 2
section
variable {w W W' : World} {z T m clk g c f : Nat} {O : Option Addr} {L : List En} {o : Obj}
theorem ES.put (h : ES w z T m clk O g c L f o W) (hT0 : ∀ q, TOwn T m (some ⟨g, 0, none⟩) L q → q < z) (hw : w.heap.size < z) (o' : Obj) : ES w z T m clk O g c L f o (World.putObj W (z + 2) o') := by
  have hk : ∀ q, q ≠ z + 2 → (World.putObj W (z + 2) o').heap[q]? = W.heap[q]? := fun q hq => World.putObj_heap_other hq
  obtain ⟨es, ht⟩ := h.tab
  exact ⟨⟨es, ht.kept (fun q hq => hk q (by have := hT0 q hq; omega))⟩, ⟨h.chg.os, h.chg.tape, h.chg.output, by have := h.chg.size; simpa [World.putObj] using this, fun q hq hn => (hk q (by omega)).trans (h.chg.block q hq hn)⟩,
    (hk _ (by omega)).trans h.b0, (hk _ (by omega)).trans h.bi, (hk _ h.fl.2).trans h.fo, by have := h.big; simpa [World.putObj] using this, h.fl⟩
theorem ES.below (h : ES w z T m clk O g c L f o W) (hb : Below W.heap.size W W') : ES w z T m clk O g c L f o W' := by
  obtain ⟨es, ht⟩ := h.tab
  exact ⟨⟨es, ht.below hb⟩, h.chg.call hb, bblock hb h.b0, bblock hb h.bi, bblock hb h.fo, Nat.le_trans h.big hb.size, h.fl⟩
end
/-- the state behind the assignment of the round -/
structure EJA (w : World) (z T m clk : Nat) (O : Option Addr) (g c : Nat) (L : List En) (ts : Array Value) (x : Nat × Nat × Obj) (a : Act) (W : World) : Prop where
  st : ES w z T m clk O g c L x.2.1 x.2.2 W
  i0 : x.1 = 0
  fr : ∃ (e : En) (kb : Nat), L[x.1]? = some e ∧ z + 3 ≤ kb ∧ W.heap[kb]? = some (.cells #[.int .i64 e.k.f, .int .i64 e.k.t, .int .i64 e.k.p, .int .i64 e.k.i] 79) ∧ a = { tmps := ((ts.setIfInBounds 58 (.agg #[.int .i64 e.k.f, .int .i64 e.k.t, .int .i64 e.k.p, .int .i64 e.k.i])).setIfInBounds 59 (.pointer (some ⟨e.hb, 0, none⟩))).setIfInBounds 10 (.pointer (some ⟨kb, 0, none⟩)), defers := [] }
theorem act_open {F : Fence} {n : Nat} {P : Program} {cd : Code} {Q : Exit → Act → World → Prop} {a : Act} {w : World} (h : ∀ ts ds, Hid (a = ⟨ts, ds⟩) → cd.wpIn F n P Q ⟨ts, ds⟩ w) : cd.wpIn F n P Q a w := by
  cases a with
  | mk ts ds => exact h ts ds (Lib.hid rfl)
/-- the state behind the break -/
structure EX (w : World) (z T m clk : Nat) (O : Option Addr) (g c : Nat) (L : List En) (cd : Code) (W : World) : Prop where
  tab : ∃ es, Tab W T m es clk (some ⟨g, 0, none⟩) c L
  chg : Chg (S3 T m O) w W
  big : z + 3 ≤ W.heap.size
  cd : cd = .exit 0
theorem EX.put {w W : World} {z T m clk g c : Nat} {O : Option Addr} {L : List En} {cd : Code} (h : EX w z T m clk O g c L cd W) (hT0 : ∀ q, TOwn T m (some ⟨g, 0, none⟩) L q → q < z) (hw : w.heap.size < z) (o' : Obj) : EX w z T m clk O g c L cd (World.putObj W (z + 2) o') := by
  have hk : ∀ q, q ≠ z + 2 → (World.putObj W (z + 2) o').heap[q]? = W.heap[q]? := fun q hq => World.putObj_heap_other hq
  obtain ⟨es, ht⟩ := h.tab
  exact ⟨⟨es, ht.kept (fun q hq => hk q (by have := hT0 q hq; omega))⟩, ⟨h.chg.os, h.chg.tape, h.chg.output, by have := h.chg.size; simpa [World.putObj] using this, fun q hq hn => (hk q (by omega)).trans (h.chg.block q hq hn)⟩,
    by have := h.big; simpa [World.putObj] using this, h.cd⟩
set_option maxHeartbeats 8000000 in
theorem find_new8 (T m : Nat) (es : Array MapEntry) (clk : Nat) (O : Option Addr) (oc : Nat) (L : List En) (k : Ky) (hk : k ∉ L.map (·.k)) (now : Int) (w : World) (h : Tab w T m es clk O oc L) (hL : L.length = 8) :
    Calls Try.prog 34 #[.pointer (some ⟨T, 0, none⟩), .agg #[.int .i64 k.f, .int .i64 k.t, .int .i64 k.p, .int .i64 k.i], .int .i64 now] w (NewPost w T m O L.tail k now) := by
  have HL8 := Lib.hid hL
  have hL1 : 8 ≤ L.length := by omega
  have hL2 : L.length ≤ 8 := by omega
  clear hL
  have HT0 := Lib.hid h; have HT0x := Lib.hid h
  have HB := below_alloc (o := .cells #[.int .i64 k.f, .int .i64 k.t, .int .i64 k.p, .int .i64 k.i] 79) (below_alloc (o := .cells #[.pointer (some ⟨T, 0, none⟩)] 25) (Below.refl w.heap.size w))
  have hp := block_alloc (alloc_new w (.cells #[.pointer (some ⟨T, 0, none⟩)] 25)) (.cells #[.int .i64 k.f, .int .i64 k.t, .int .i64 k.p, .int .i64 k.i] 79)
  have hkk := alloc_new' (w.alloc (.cells #[.pointer (some ⟨T, 0, none⟩)] 25)) (.cells #[.int .i64 k.f, .int .i64 k.t, .int .i64 k.p, .int .i64 k.i] 79) (w.heap.size + 1) (by simp)
  have hsz : ((w.alloc (.cells #[.pointer (some ⟨T, 0, none⟩)] 25)).alloc (.cells #[.int .i64 k.f, .int .i64 k.t, .int .i64 k.p, .int .i64 k.i] 79)).heap.size = w.heap.size + 2 := by simp
  refine (callsIn_wide (n := 9)).1 ?_
  refine callsIn_of_wp_marks Try.func34 rfl trivial ?_ rfl
  simp only [Try.ntmps34, List.size_toArray, List.length_cons, List.length_nil, Nat.reduceAdd, Nat.reduceSub, Array.replicate_succ, Array.replicate_zero, List.push_toArray, List.append_toArray, List.nil_append, List.cons_append]
  refine wpIn_wide.2 ?_
  go_upto_region 1 with fail
  generalize (w.alloc (.cells #[.pointer (some ⟨T, 0, none⟩)] 25)).alloc (.cells #[.int .i64 k.f, .int .i64 k.t, .int .i64 k.p, .int .i64 k.i] 79) = w1 at *
  have HT1 := Lib.hid (HT0.out.below HB)
  have hlk := look_none (W := w1.drew) (HT1.out.kept (fun _ _ => rfl)) k hk true
  have qt := (cell_of_block (k := 0) HT1.out.tab rfl).1
  have qp := (cell_of_box hp).1
  have qk0 := (cell_of_block (k := 0) hkk rfl).1; have qk1 := (cell_of_block (k := 1) hkk rfl).1; have qk2 := (cell_of_block (k := 2) hkk rfl).1; have qk3 := (cell_of_block (k := 3) hkk rfl).1
  have HP1 := Lib.hid hp; have HK1 := Lib.hid hkk; have HKN := Lib.hid hk; have HB1 := Lib.hid HB; have HSZ := Lib.hid hsz
  clear hp hkk HT0 HB hk hsz
  go_region
  clear qt qp qk0 qk1 qk2 qk3 hlk
  have HT2 : Hid (Tab w1.drew T m es clk O oc L) := Lib.hid (HT1.out.kept (fun _ _ => rfl))
  have HP2 : Hid (w1.drew.heap[w.heap.size]? = some (.cells #[.pointer (some ⟨T, 0, none⟩)] 25)) := Lib.hid HP1.out
  have HK2 : Hid (w1.drew.heap[w.heap.size + 1]? = some (.cells #[.int .i64 k.f, .int .i64 k.t, .int .i64 k.p, .int .i64 k.i] 79)) := Lib.hid HK1.out
  have HB2 := Lib.hid HB1.out.drew
  have HSZ2 : Hid (w1.drew.heap.size = w.heap.size + 2) := Lib.hid HSZ.out
  clear HT1 HP1 HK1 HB1 HSZ
  generalize w1.drew = w2 at *
  have qt := (cell_of_block (k := 0) HT2.out.tab rfl).1
  have qp := (cell_of_box HP2.out).1
  have hme := mapEq m
  go_upto_region 7 with fail
  clear qt hme
  have Hh3 := Lib.hid (alloc_new' w2 (.cells #[.int .i64 now, .bool false, .slice none 0 0, .slice none 0 0, .int .i64 0, .bool false, .int .i64 0, .bool false, .int .i64 0, .int .i64 0, .int .i64 0, .int .i64 0, .int .i64 0, .bool false, .bool false, .int .i64 0, .string ⟨#[]⟩] 83) (w.heap.size + 2) HSZ2.out)
  have HT3 := Lib.hid (HT2.out.below ((Below.refl _ _).alloc (Nat.le_refl _) (.cells #[.int .i64 now, .bool false, .slice none 0 0, .slice none 0 0, .int .i64 0, .bool false, .int .i64 0, .bool false, .int .i64 0, .int .i64 0, .int .i64 0, .int .i64 0, .int .i64 0, .bool false, .bool false, .int .i64 0, .string ⟨#[]⟩] 83)))
  have HP3 := Lib.hid (block_alloc HP2.out (.cells #[.int .i64 now, .bool false, .slice none 0 0, .slice none 0 0, .int .i64 0, .bool false, .int .i64 0, .bool false, .int .i64 0, .int .i64 0, .int .i64 0, .int .i64 0, .int .i64 0, .bool false, .bool false, .int .i64 0, .string ⟨#[]⟩] 83))
  have HK3 := Lib.hid (block_alloc HK2.out (.cells #[.int .i64 now, .bool false, .slice none 0 0, .slice none 0 0, .int .i64 0, .bool false, .int .i64 0, .bool false, .int .i64 0, .int .i64 0, .int .i64 0, .int .i64 0, .int .i64 0, .bool false, .bool false, .int .i64 0, .string ⟨#[]⟩] 83))
  have HB3 := Lib.hid (below_alloc (o := .cells #[.int .i64 now, .bool false, .slice none 0 0, .slice none 0 0, .int .i64 0, .bool false, .int .i64 0, .bool false, .int .i64 0, .int .i64 0, .int .i64 0, .int .i64 0, .int .i64 0, .bool false, .bool false, .int .i64 0, .string ⟨#[]⟩] 83) HB2.out)
  have HSZ3 : Hid ((w2.alloc (.cells #[.int .i64 now, .bool false, .slice none 0 0, .slice none 0 0, .int .i64 0, .bool false, .int .i64 0, .bool false, .int .i64 0, .int .i64 0, .int .i64 0, .int .i64 0, .int .i64 0, .bool false, .bool false, .int .i64 0, .string ⟨#[]⟩] 83)).heap.size = w.heap.size + 3) := Lib.hid (by have := HSZ2.out; simp; omega)
  rw [HSZ2.out]
  clear qp HT2 HP2 HK2 HB2 HSZ2
  generalize w2.alloc (.cells #[.int .i64 now, .bool false, .slice none 0 0, .slice none 0 0, .int .i64 0, .bool false, .int .i64 0, .bool false, .int .i64 0, .int .i64 0, .int .i64 0, .int .i64 0, .int .i64 0, .bool false, .bool false, .int .i64 0, .string ⟨#[]⟩] 83) = w3 at *
  have qt := (cell_of_block (k := 0) HT3.out.tab rfl).1
  have qp := (cell_of_box HP3.out).1
  have qk0 := (cell_of_block (k := 0) HK3.out rfl).1; have qk1 := (cell_of_block (k := 1) HK3.out rfl).1; have qk2 := (cell_of_block (k := 2) HK3.out rfl).1; have qk3 := (cell_of_block (k := 3) HK3.out rfl).1
  go_still_tail 6, (by kernel_rfl)
  change wpList _ _ _ _ _ w3.drew
  have hup := run_update_ky (W := w3.drew) k (.pointer (some ⟨w.heap.size + 2, 0, none⟩)) HT3.out.map HT3.out.ents HKN.out
  unfold tyM Ky.val at hup
  clear qt qp qk0 qk1 qk2 qk3
  obtain ⟨w4, hw4⟩ : ∃ W : World, W = { w3.drew with heap := w3.drew.heap.setIfInBounds m (.map (es.push { key := .agg #[.int .i64 k.f, .int .i64 k.t, .int .i64 k.p, .int .i64 k.i], val := .pointer (some ⟨w.heap.size + 2, 0, none⟩), born := clk }) (clk + 1)) } := ⟨_, rfl⟩
  rw [← hw4] at hup
  have HW4 := Lib.hid hw4; clear hw4
  go_upto_region 8 with fail
  have hw4 := HW4.out; clear HW4
  have hml := HT0x.out.lt (.inr (.inl rfl) : TOwn T m O L m); have hTl := HT0x.out.lt (.inl rfl : TOwn T m O L T)
  have HTT4 : Hid (w4.heap[T]? = some (.cells #[.map (some m), .slice O L.length oc] 72)) := Lib.hid (by rw [hw4]; exact block_setObj (W := w3.drew) HT3.out.tab HT3.out.tm)
  have HM4 : Hid (w4.heap[m]? = some (.map (es.push { key := .agg #[.int .i64 k.f, .int .i64 k.t, .int .i64 k.p, .int .i64 k.i], val := .pointer (some ⟨w.heap.size + 2, 0, none⟩), born := clk }) (clk + 1))) := Lib.hid (by rw [hw4]; exact block_setObj_same (W := w3.drew) HT3.out.map)
  have HP4 : Hid (w4.heap[w.heap.size]? = some (.cells #[.pointer (some ⟨T, 0, none⟩)] 25)) := Lib.hid (by rw [hw4]; exact block_setObj (W := w3.drew) HP3.out (by omega))
  have HK4 : Hid (w4.heap[w.heap.size + 1]? = some (.cells #[.int .i64 k.f, .int .i64 k.t, .int .i64 k.p, .int .i64 k.i] 79)) := Lib.hid (by rw [hw4]; exact block_setObj (W := w3.drew) HK3.out (by omega))
  have Hh4 : Hid (w4.heap[w.heap.size + 2]? = some (.cells #[.int .i64 now, .bool false, .slice none 0 0, .slice none 0 0, .int .i64 0, .bool false, .int .i64 0, .bool false, .int .i64 0, .int .i64 0, .int .i64 0, .int .i64 0, .int .i64 0, .bool false, .bool false, .int .i64 0, .string ⟨#[]⟩] 83)) := Lib.hid (by rw [hw4]; exact block_setObj (W := w3.drew) Hh3.out (by omega))
  have HSZ4 : Hid (w4.heap.size = w.heap.size + 3) := Lib.hid (by rw [hw4]; simp; exact HSZ3.out)
  have HO4 : Hid (Ord w4 O L.length oc (L.map (·.k))) := Lib.hid (HT3.out.ord.kept (fun a q => by
    rw [hw4]
    show (w3.drew.heap.setIfInBounds m _)[a.block]? = _
    rw [Array.getElem?_setIfInBounds_ne (fun q2 => (HT3.out.og a q).2 q2.symm)]; rfl))
  have HC4 : Hid (Chg (S3 T m O) w w4) := Lib.hid (by
    rw [hw4]
    have hc := (Chg.of_below (S := S3 T m O) HB3.out).drew
    exact ⟨hc.os, hc.tape, hc.output, by simpa using hc.size, fun q hq hn => by
      have hkm : q ≠ m := fun q2 => hn (.inr (.inl q2))
      show (w3.drew.heap.setIfInBounds m _)[q]? = _
      rw [Array.getElem?_setIfInBounds_ne (fun q2 => hkm q2.symm)]
      exact hc.block q hq hn⟩)
  clear hw4 hup Hh3 HT3 HP3 HK3 HB3 HSZ3
  obtain ⟨i0, hi, hz0, hz1, hz2⟩ := info_parts infoKy
  have Hown := Lib.hid (ord_owns HO4.out)
  have lt1 := blk_lt HTT4.out; have lt2 := blk_lt HP4.out; have lt3 := blk_lt HK4.out
  have qt := (cell_of_block (k := 1) HTT4.out rfl).1
  have qp := (cell_of_box HP4.out).1
  have qk0 := (cell_of_block (k := 0) HK4.out rfl).1; have qk1 := (cell_of_block (k := 1) HK4.out rfl).1; have qk2 := (cell_of_block (k := 2) HK4.out rfl).1; have qk3 := (cell_of_block (k := 3) HK4.out rfl).1
  have hob : Value.ownBlock (.slice O L.length oc) = O.map (·.block) := by cases O <;> rfl
  have HOB := Lib.hid hob; clear hob
  have HOT : Hid ((some T : Option Nat) ≠ O.map (·.block)) := Lib.hid (by
    intro e
    cases O with
    | none => cases e
    | some a => exact (HT0x.out.og a rfl).1 (by simpa using e.symm))
  have HOP : Hid ((some w.heap.size : Option Nat) ≠ O.map (·.block)) := Lib.hid (by
    intro e
    cases O with
    | none => cases e
    | some a => have := HT0x.out.ord.lt rfl; simp at e; omega)
  go_cut [47] from 40 to 49 (fun s47 wx => ∃ es clk g c, wx.heap[w.heap.size]? = some (.cells #[.pointer (some ⟨T, 0, none⟩)] 25) ∧ Tab wx T m es clk (some ⟨g, 0, none⟩) c (L ++ [newE k now (w.heap.size + 2)]) ∧ Chg (S3 T m O) w wx ∧ (O.map (·.block) = some g ∨ w.heap.size ≤ g))
  case first =>
    refine wp_only ?_
    go_region_law (refine step_append_lies _ (by rfl) _ _ _ (by rfl) 0 79 i0 (.agg #[.int .i64 0, .int .i64 0, .int .i64 0, .int .i64 0]) 4 32 Try.underlying70 hi hz0 hz1 hz2 rfl (by decide) (.slice O L.length oc) L.length _ (by rfl) (Hown.out.alloc _) ⟨w4.heap.size, 0, none⟩ 1 1 [.int .i64 k.f, .int .i64 k.t, .int .i64 k.p, .int .i64 k.i] (by rfl) rfl (World.news_of_block (heap_alloc_new w4 _)) (by simp [Value.oneCell']) (by omega) (by unfold maxLen; omega) (by omega) (by simp) (w4.heap.size + 1) (by simp) ?_; intro g cap x5 hown5 hgrow5 hat5 hlt5; rw [HOB.out] at hgrow5 hat5; have hT5 := (hgrow5.block T (blk_lt (block_alloc HTT4.out _)) HOT.out).trans (block_alloc HTT4.out _); have q5 := (cell_of_block (k := 1) hT5 rfl).1; have z5 := (cell_of_block (k := 1) hT5 rfl).2; have hP5 := (hgrow5.block w.heap.size (blk_lt (block_alloc HP4.out _)) HOP.out).trans (block_alloc HP4.out _); have p5 := (cell_of_box hP5).1)
    all_goals
      go_wp2_with fail
      go_meet
      have hx5 : Chg (S3 T m O) w (x5.setCell ⟨T, 1, none⟩ (.slice (some ⟨g, 0, none⟩) (L.length + 1) cap)) := ((HC4.out.alloc _).drew.grown hgrow5 (fun q e => by
        cases O with
        | none => cases e
        | some a => exact .inl (.inr (.inr ⟨a, rfl, by simpa using e⟩)))).set (.inl (.inl rfl)) _
      have hatx : O.map (·.block) = some g ∨ w.heap.size + 3 ≤ g := hat5.imp id (fun q => by have := HSZ4.out; omega)
      have hne : ∀ q : Nat, (some q : Option Nat) = O.map (·.block) → q < w.heap.size := fun q e => by
        cases O with
        | none => cases e
        | some a => have := HT0x.out.ord.lt rfl; simp at e; omega
      refine ⟨_, _, g, cap, block_set_other hP5 (by show T ≠ _; omega), tab_push HT0x.out HKN.out hT5 ((hgrow5.block m (blk_lt (block_alloc HM4.out _)) (fun e => by
        cases O with
        | none => cases e
        | some a => exact (HT0x.out.og a rfl).2 (by simpa using e.symm))).trans (block_alloc HM4.out _)) ((hgrow5.block _ (blk_lt (block_alloc Hh4.out _)) (fun e => by have := hne _ e; omega)).trans (block_alloc Hh4.out _)) hown5 hx5 (hatx.imp id (fun q => by omega)) (by omega) ?_, hx5, hatx.imp id (fun q => by omega)⟩
      rcases hatx with q | q
      · have := hne g q.symm; omega
      · omega
  case rest =>
    obtain ⟨es', clk', g, c, hPx, hTx, hCx, hax⟩ := hcut
    have HTX := Lib.hid hTx; have HCX := Lib.hid hCx; have HAX := Lib.hid hax
    have qpx := (cell_of_box hPx).1
    have qtx := (cell_of_block (k := 1) hTx.tab rfl).1
    have hl9 : (L.length : Int) = 8 := by omega
    have hl0 : decide ((8 : Int) < (L.length : Int) + 1) = true := by simp; omega
    rw [List.length_append, List.length_cons, List.length_nil] at qtx
    have HPX := Lib.hid hPx
    clear hPx hTx hCx hax qt qp qk0 qk1 qk2 qk3 HTT4 HM4 HP4 HK4 Hh4 HSZ4 HO4 HC4 hi hz0 hz1 hz2 Hown lt1 lt2 lt3 HOB HOT HOP h
    obtain ⟨w5, rfl⟩ : ∃ wo : World, wo = wc := ⟨_, rfl⟩
    obtain ⟨L9, hL9⟩ : ∃ L9, L ++ [newE k now (w.heap.size + 2)] = L9 := ⟨_, rfl⟩
    rw [hL9] at HTX
    have hl99 : L9.length = 9 := by rw [← hL9, List.length_append, HL8.out]; rfl
    go_wp2_with (go_at_call 45; refine (inOrder_any T _).mono ?_; rintro e w' ⟨rfl, rfl⟩)
    refine (wpIn_wide (n := 9)).1 ?_
    refine act_open fun ts ds hts => ?_
    have HTS := Lib.hid hts.out; clear hts
    have hT0 : ∀ q, TOwn T m (some ⟨g, 0, none⟩) L9 q → q < w5.heap.size := fun q hq => HTX.out.lt hq
    have hT1 : ∀ q, TOwn T m (some ⟨g, 0, none⟩) (L9.eraseIdx 0) q → q < w5.heap.size := fun q hq => hT0 q (by
      rcases hq with r | r | r | ⟨e, he, r⟩
      · exact .inl r
      · exact .inr (.inl r)
      · exact .inr (.inr (.inl r))
      · exact .inr (.inr (.inr ⟨e, (List.eraseIdx_sublist _ _).subset he, r⟩)))
    have hw5 : w.heap.size < w5.heap.size := blk_lt HPX.out
    have HB0 := Lib.hid ((Below.refl w5.heap.size w5).alloc (Nat.le_refl _) (.cells #[.pointer (some ⟨T, 0, none⟩)] 25))
    have HBI := Lib.hid (alloc_new w5 (.cells #[.pointer (some ⟨T, 0, none⟩)] 25))
    have hsz : (w5.alloc (.cells #[.pointer (some ⟨T, 0, none⟩)] 25)).heap.size = w5.heap.size + 1 := by simp
    generalize w5.alloc (.cells #[.pointer (some ⟨T, 0, none⟩)] 25) = W0 at *
    have hJJ : w5.heap.size + 3 ≤ w5.heap.size + 3 := Nat.le_refl _
    refine wpIn_rangeFunc_at (ι := Nat × Nat × Obj) (F := Fence.wide) rfl (by omega) (gf := 64) (lb := #[.pointer (some ⟨w5.heap.size, 0, none⟩)]) ?geq trivial (enters_of Try.func64 (by kernel_rfl) rfl)
      (fun x => argK L9 x.1) (fun x => rfl) (fun W => Below W0.heap.size W0 W ∧ w5.heap.size + 3 ≤ W.heap.size)
      (fun x W => ∃ e, L9[x.1]? = some e ∧ x.1 = 0 ∧ ES w w5.heap.size T m clk' O g c L9 x.2.1 x.2.2 W) (fun x W => x.1 + 1 = 0 ∧ ES w w5.heap.size T m clk' O g c L9 x.2.1 x.2.2 W) (fun cd W => EX w w5.heap.size T m clk' O g c (L9.eraseIdx 0) cd W)
      (fun W => ∃ f o, L9.length = 0 ∧ ES w w5.heap.size T m clk' O g c L9 f o W)
      (fun o o' => ⟨((Below.refl _ _).alloc (Nat.le_refl _) o).alloc (by simp) o', by simp; omega⟩) (fun x W o hx => ⟨hx.1, by rw [hsz]; exact hx.2.put hT0 hw5 o⟩) (fun cd W o hx => by rw [hsz]; exact hx.put hT1 hw5 o) (fun W o hx => by obtain ⟨f, o', h0, hx⟩ := hx; rw [hsz]; exact ⟨f, o', h0, hx.put hT0 hw5 o⟩)
      (fun l r W hl h0 hk hY => ?iter) (EJA w w5.heap.size T m clk' O g c L9 ts) (fun x a W o hx => ?ja) ?assign ?body ?done ?stop
    case geq => obtain ⟨rfl, rfl⟩ := Act.mk.inj HTS.out; rfl
    case ja =>
      rw [hsz]
      obtain ⟨e, kb, h1, h2, h3, h4⟩ := hx.fr
      exact ⟨hx.st.put hT0 hw5 o, hx.i0, e, kb, h1, h2, (World.putObj_heap_other (by omega)).trans h3, h4⟩
    case iter =>
      exact inOrder1_wide 8 (by omega) T w5.heap.size l r L9 (by omega) (fun W => Below W0.heap.size W0 W ∧ w5.heap.size + 3 ≤ W.heap.size) (fun f o i W => i = 0 ∧ ES w w5.heap.size T m clk' O g c L9 f o W) (fun cd W => EX w w5.heap.size T m clk' O g c (L9.eraseIdx 0) cd W)
        (fun W1 h1 => ⟨bblock h1.1 HBI.out, m, es', clk', some ⟨g, 0, none⟩, c, HTX.out.below (below_call HB0.out h1.1)⟩)
        (fun W1 W2 f o h1 hb hf ho => by
          have hb2 := below_call h1.1 hb
          have hb0 := below_call HB0.out hb2
          exact ⟨rfl, ⟨es', HTX.out.below hb0⟩, HCX.out.call hb0, bblock hb0 HPX.out, bblock hb2 HBI.out, ho, Nat.le_trans h1.2 hb.size, by have := h1.2; omega⟩)
        (fun W1 W2 h1 hb he => by rw [he] at hl99; simp at hl99)
        (fun f o i W1 W2 h1 hb => ⟨h1.1, h1.2.below hb⟩)
        (fun f o i e W1 h1 he => ⟨h1.2.fo, h1.2.bi, m, h1.2.tab.choose, clk', some ⟨g, 0, none⟩, c, L9, i, h1.2.tab.choose_spec, he⟩)
        (fun f o i e W1 he h1 hk1 => by
          have := hY (i, f, o) W1 ⟨e, he, h1.1, h1.2⟩ hk1
          rw [argK_of he] at this
          exact this)
        W h0 hk
    case assign =>
      intro l x W hx
      obtain ⟨e, he, h0, hs⟩ := hx
      obtain ⟨i, f, o⟩ := x
      dsimp only at he hs h0
      subst h0
      rw [argK_of he]
      unfold kArgs
      have hz := hs.big
      have hbW := (Below.refl W.heap.size W).alloc (Nat.le_refl _) (.cells #[.int .i64 e.k.f, .int .i64 e.k.t, .int .i64 e.k.p, .int .i64 e.k.i] 79)
      obtain ⟨rfl, rfl⟩ := Act.mk.inj HTS.out
      gi_wp2
      exact ⟨⟨hbW.block _ (by omega), hbW.block _ (by omega)⟩, hs.below hbW, rfl, e, W.heap.size, he, hz, alloc_new _ _, rfl⟩
    case body =>
      intro l x a W hx
      obtain ⟨i, f, o⟩ := x
      have hi0 := hx.i0
      obtain ⟨e, kb, he, hkb, hK, rfl⟩ := hx.fr
      have HS := Lib.hid hx.st
      dsimp only at hi0 he HS
      subst hi0
      have HE := Lib.hid he
      clear hx he
      obtain ⟨es1, hT⟩ := HS.out.tab
      have HT1 := Lib.hid hT; clear hT
      have q0 := (cell_of_box HS.out.b0).1
      have qk0 := (cell_of_block (k := 0) hK rfl).1; have qk1 := (cell_of_block (k := 1) hK rfl).1; have qk2 := (cell_of_block (k := 2) hK rfl).1; have qk3 := (cell_of_block (k := 3) hK rfl).1
      have hbig := HS.out.big
      clear hK
      obtain ⟨rfl, rfl⟩ := Act.mk.inj HTS.out
      simp only [List.setIfInBounds_toArray, List.set_cons_succ, List.set_cons_zero]
      gi_wp2_with fail
      refine ⟨trivial, CallsIn.inRound l ?_⟩
      refine (callsIn_wide.2 (remove_any T m es1 clk' (some ⟨g, 0, none⟩) c L9 0 e HE.out _ HT1.out (by omega))).mono ?_
      rintro x w4 ⟨rfl, es4, ht4, hc4⟩
      have HT4 := Lib.hid ht4; have HC4 := Lib.hid hc4; clear ht4 hc4
      have hS3 : ∀ q, S3 T m (some ⟨g, 0, none⟩) q → q < w5.heap.size := fun q hq => hT0 q (by
        rcases hq with r | r | r
        · exact .inl r
        · exact .inr (.inl r)
        · exact .inr (.inr (.inl r)))
      gi_wp2_with fail
      refine ⟨⟨HC4.out.block _ (by omega) (fun r => by have := hS3 _ r; omega), HC4.out.block _ (by omega) (fun r => by have := hS3 _ r; omega)⟩, ⟨es4, HT4.out⟩, HS.out.chg.trans HC4.out (fun q hq => ?_), Nat.le_trans hbig HC4.out.size, rfl⟩
      rcases hq with r | r | ⟨a, r1, r2⟩
      · exact .inl (.inl r)
      · exact .inl (.inr (.inl r))
      · cases r1
        rcases HAX.out with s | s
        · refine .inl (.inr (.inr ?_))
          cases O with
          | none => cases s
          | some a => exact ⟨a, rfl, by simp at s; rw [s]; exact r2⟩
        · exact .inr (by rw [← r2]; exact s)
    case done =>
      rintro W ⟨f, o, h0, -⟩ hd
      omega
    case stop =>
      intro cd W hx hd
      obtain ⟨⟨es9, ht⟩, hc, hbig, rfl⟩ := hx
      rw [hsz] at hd
      have HT9 := Lib.hid ht; have HC9 := Lib.hid hc; have HD := Lib.hid hd; clear ht hc hd
      refine wpIn_wide.2 ?_
      obtain ⟨rfl, rfl⟩ := Act.mk.inj HTS.out
      rw [hsz]
      go_wp2_with fail
      refine ⟨by simp, .inl ⟨_, _, rfl, run_takeDeferred HD.out, ?_⟩⟩
      have hk : ∀ q, q ≠ w5.heap.size + 1 → (World.putObj W (w5.heap.size + 1) (.deferred none)).heap[q]? = W.heap[q]? := fun q hq => World.putObj_heap_other hq
      have e9 : L9.eraseIdx 0 = L.tail ++ [newE k now (w.heap.size + 2)] := by
        rw [← hL9]
        cases L with
        | nil => have := HL8.out; simp at this
        | cons a L => rfl
      refine ⟨_, results_tmp rfl _ _ _, es9, clk', g, c, rfl, by rw [← e9]; exact HT9.out.kept (fun q hq => hk q (by have := hT1 q hq; omega)), HC9.out.trans (S' := fun q => q = w5.heap.size + 1) ⟨rfl, rfl, rfl, by simp [World.putObj], fun q _ hq => hk q hq⟩ (fun q hq => .inr (by omega)), HAX.out⟩
end Go.Proofs.Ytmeldgnjgogacaa.Re
