/-
  The contract of (*Table).Send, while the table has room.
-/
import Derived.Test.YtmgjcjacoegocaaDoorArAbs
import Derived.Deep.AppendLies
namespace Go.Proofs.YtmgjcjacoegocaaDoor.Ar
set_option maxRecDepth 100000
open Go.RowKit Go.Proofs.YtmgjcjacoegocaaDoor.Wire

def last4 (l : List ByteArray) : List ByteArray := if 4 < l.length then l.drop 1 else l
/-- what Send does, while the table has room -/
def sendA (c : Tc) (A : AL) (now to_ : Int) (s : ByteArray) : AL × Int × List Am × Int :=
  if uniB to_ = false ∨ to_ = c.own ∨ 1024 < s.size then (A, 0, [], 50)
  else match look A to_ with
    | some (.res mac since _) => (upd A to_ (.res mac since now), mac, [], 0)
    | some (.inc held sent first last) => (upd A to_ (.inc (last4 (held ++ [s])) sent first last), 0, [], 0)
    | none => (A ++ [(to_, .inc [s] 1 now now)], 0, [req c to_], 0)
def SendP (T : Nat) (m : Option Nat) (L : List En) (c : Tc) (w : World) (r : AL × Int × List Am × Int) (e : Ending) (w' : World) : Prop :=
  ∃ (B : Option Addr) (k : Nat) (m' : Option Nat) (es' : Array MapEntry) (clk' : Nat) (L' : List En), e = .returned (.tuple #[.int .i64 r.2.1, .slice B r.2.2.1.length k, .int .i64 r.2.2.2]) ∧
    MRow w' w.heap.size B k r.2.2.1 ∧ Tab w' T m' es' clk' c L' ∧ absL L' = r.1 ∧ Chg (TOwn T m L) w w' ∧ (∀ q, TOwn T m' L' q → (TOwn T m L q ∨ w.heap.size ≤ q) ∧ ¬ BK B q)
theorem send_nil (now to_ : Int) (s : ByteArray) (w : World) : Calls Tryd.prog 23 #[.pointer none, .int .i64 now, .int .i64 to_, .string s] w fun e w' => e = .returned (.tuple #[.int .i64 0, .slice none 0 0, .int .i64 1]) ∧ w = w' := by
  go_enter Tryd.func23, Tryd.ntmps23
  go_wp2_with fail
  go_ret3
  exact ⟨rfl, rfl⟩
theorem run_map_len {W : World} {r clk : Nat} {es : Array MapEntry} (h : W.heap[r]? = some (.map es clk)) (ty : TypeId) : (Builtin.len_ #[100] ty #[.map (some r)]).run Tryd.prog W = .ok (.int .i64 es.size) W := by
  have hu : Tryd.prog.underlying 100 = some (.map 3 124) := underM
  unfold Builtin.len_
  simp [run_underlying hu, Go.MapKept.run_getObj_map h, Result.andThen, goInt]
theorem run_map_nil (W : World) (r : Nat) : (binOp .eql 100 (.map (some r)) (.map none)).run Tryd.prog W = .ok (.bool false) W := by kernel_rfl
theorem run_map_nn (W : World) : (binOp .eql 100 (.map none) (.map none)).run Tryd.prog W = .ok (.bool true) W := by kernel_rfl
theorem es_size {es : Array MapEntry} {L : List En} (h : Ents es (L.map (·.k)) (L.map En.val)) : es.size = L.length := by
  have := congrArg List.length h.1; simpa using this
set_option maxHeartbeats 8000000 in
theorem send_bad (T : Nat) (m : Option Nat) (es : Array MapEntry) (clk : Nat) (c : Tc) (L : List En) (now to_ : Int) (s : ByteArray) (w : World) (h : Tab w T m es clk c L) (hs : s.size ≤ 9223372036854775807) (hbad : uniB to_ = false ∨ to_ = c.own ∨ 1024 < s.size) :
    Calls Tryd.prog 23 #[.pointer (some ⟨T, 0, none⟩), .int .i64 now, .int .i64 to_, .string s] w fun e w' => e = .returned (.tuple #[.int .i64 0, .slice none 0 0, .int .i64 50]) ∧ w = w' := by
  obtain ⟨t0, -⟩ := cellsT h
  have H1 := Lib.hid (uni_any to_)
  clear h
  by_cases h1 : uniB to_ = false
  · rw [h1] at H1
    clear hbad h1
    go_enter Tryd.func23, Tryd.ntmps23
    go_wp2_with (go_at_call 43; (with_reducible refine (H1.out _).mono ?_); rintro e w' ⟨rfl, rfl⟩)
    go_ret3
    exact ⟨rfl, rfl⟩
  have h1' : uniB to_ = true := by cases q : uniB to_ <;> simp_all
  rw [h1'] at H1
  by_cases h2 : to_ = c.own
  · have e2 : (to_ == c.own) = true := beq_iff_eq.2 h2
    clear hbad h1 h1' h2
    go_enter Tryd.func23, Tryd.ntmps23
    go_wp2_with (go_at_call 43; (with_reducible refine (H1.out _).mono ?_); rintro e w' ⟨rfl, rfl⟩)
    go_ret3
    exact ⟨rfl, rfl⟩
  · have e2 : (to_ == c.own) = false := beq_eq_false_iff_ne.2 h2
    have h3 : 1024 < s.size := by rcases hbad with q | q | q; (exact absurd q h1); (exact absurd q h2); (exact q)
    have e3 : decide ((1024 : Int) < (s.size : Int)) = true := decide_eq_true (by omega)
    clear hbad h1 h1' h2 h3
    go_enter Tryd.func23, Tryd.ntmps23
    go_wp2_with (go_at_call 43; (with_reducible refine (H1.out _).mono ?_); rintro e w' ⟨rfl, rfl⟩)
    go_ret3
    exact ⟨rfl, rfl⟩
set_option maxHeartbeats 8000000 in
theorem send_res (T : Nat) (m : Option Nat) (es : Array MapEntry) (clk : Nat) (c : Tc) (L : List En) (now to_ : Int) (s : ByteArray) (w : World) (h : Tab w T m es clk c L) (hs : s.size ≤ 9223372036854775807) (hok : ¬ (uniB to_ = false ∨ to_ = c.own ∨ 1024 < s.size)) (hn : In64 now) {j : Nat} {mac since used : Int} {eb : Nat} {Hb : Option Addr} {hc : Nat} (hj : L[j]? = some ⟨to_, .res mac since used, eb, Hb, hc⟩) :
    Calls Tryd.prog 23 #[.pointer (some ⟨T, 0, none⟩), .int .i64 now, .int .i64 to_, .string s] w fun e w' => SendP T m L c w (upd (absL L) to_ (.res mac since now), mac, [], 0) e w' := by
  have hmem := List.mem_of_getElem? hj
  have hE := h.ok _ hmem
  obtain ⟨hblk, hHb, hs1, hs2⟩ : w.heap[eb]? = some (.cells #[.int .i64 mac, .int .i64 since, .int .i64 used] 128) ∧ Hb = none ∧ In64 since ∧ In64 used := hE
  subst hHb
  obtain ⟨t0, -, t2, -⟩ := cellsT h
  have hl := h.look_some hj
  unfold En.val at hl
  dsimp only [Ev.ty] at hl
  have H1 := Lib.hid (uni_any to_)
  have h1 : uniB to_ = true := by cases q : uniB to_ <;> simp_all
  have e2 : (to_ == c.own) = false := beq_eq_false_iff_ne.2 (fun q => hok (.inr (.inl q)))
  have e3 : decide ((1024 : Int) < (s.size : Int)) = false := decide_eq_false (fun q => hok (.inr (.inr (by omega))))
  rw [h1] at H1
  obtain ⟨⟨r0, r1, r2⟩, z0, z1, z2⟩ := cells3 hblk
  have hT : T ≠ eb := fun e => (h.eo _ hmem eb (.inl rfl)).1 e.symm
  have HT := Lib.hid h; have HJ := Lib.hid hj; have HBL := Lib.hid hblk
  have y1 := ta_rr
  clear h hj hmem hok h1 hblk
  go_enter Tryd.func23, Tryd.ntmps23
  go_upto_region 9 with (go_at_call 43; (with_reducible refine (H1.out _).mono ?_); rintro e w' ⟨rfl, rfl⟩)
  have hch : Chg (fun q => q = eb) w (World.setCell w ⟨eb, 2, none⟩ (.int .i64 now)) := Chg.setCell (p := ⟨eb, 2, none⟩) (Chg.refl (fun q => q = eb) w) (.inl rfl) _
  have hb9 : (World.setCell w ⟨eb, 2, none⟩ (.int .i64 now)).heap[eb]? = some (.cells #[.int .i64 mac, .int .i64 since, .int .i64 now] 128) := cells_eq (block_setCell (k := 2) (v := .int .i64 now) HBL.out) (by simp)
  obtain ⟨hT9, hown9⟩ := HT.out.setE (S := fun q => q = eb) (W' := World.setCell w ⟨eb, 2, none⟩ (.int .i64 now)) HJ.out (e' := ⟨to_, .res mac since now, eb, none, hc⟩) rfl rfl ⟨hb9, rfl, hs1, hn⟩ hch (fun q e => .inl e) (fun q hq => .inl hq)
  have HT9 := Lib.hid hT9; have HO9 := Lib.hid hown9; have HC9 := Lib.hid hch; have HB9 := Lib.hid hb9
  clear hT9 hown9 hch hb9 r0 r1 r2 z0 z1 z2 t0 t2 hl
  generalize World.setCell w ⟨eb, 2, none⟩ (.int .i64 now) = w9 at *
  obtain ⟨⟨r0, r1, r2⟩, -⟩ := cells3 HB9.out
  go_wp2_with fail
  go_ret3
  have hmem := List.mem_of_getElem? HJ.out
  exact ⟨none, 0, m, es, clk, _, rfl, SRow.nil _ _ _ _ _, HT9.out, abs_set HT.out.nod HJ.out rfl, HC9.out.mono (fun q e => .inr (.inr ⟨_, hmem, .inl e⟩)), fun q hq => ⟨HO9.out q hq, bk_none q⟩⟩
set_option maxHeartbeats 8000000 in
theorem send_new (T r : Nat) (es : Array MapEntry) (clk : Nat) (c : Tc) (L : List En) (now to_ : Int) (s : ByteArray) (w : World) (h : Tab w T (some r) es clk c L) (hs : s.size ≤ 9223372036854775807) (hok : ¬ (uniB to_ = false ∨ to_ = c.own ∨ 1024 < s.size)) (hn : In64 now) (hk : to_ ∉ L.map (·.k)) (hL : L.length < 16) :
    Calls Tryd.prog 23 #[.pointer (some ⟨T, 0, none⟩), .int .i64 now, .int .i64 to_, .string s] w fun e w' => SendP T (some r) L c w (absL L ++ [(to_, .inc [s] 1 now now)], 0, [req c to_], 0) e w' := by
  obtain ⟨hmap, hrT⟩ : w.heap[r]? = some (.map es clk) ∧ r ≠ T := by
    rcases h.map with ⟨q, -⟩ | ⟨r', q, q2, q3⟩
    · cases q
    · cases q; exact ⟨q2, q3⟩
  obtain ⟨t0, t1, t2, -⟩ := cellsT h
  have hl := h.look_none to_ hk
  have hes := es_size (h.ents (by simp))
  have hml := run_map_len hmap
  rw [hes] at hml
  have hnil := run_map_nil
  have H1 := Lib.hid (uni_any to_)
  have h1 : uniB to_ = true := by cases q : uniB to_ <;> simp_all
  have e2 : (to_ == c.own) = false := beq_eq_false_iff_ne.2 (fun q => hok (.inr (.inl q)))
  have e3 : decide ((1024 : Int) < (s.size : Int)) = false := decide_eq_false (fun q => hok (.inr (.inr (by omega))))
  have e4 : decide ((16 : Int) ≤ (L.length : Int)) = false := decide_eq_false (by omega)
  rw [h1] at H1
  have HT := Lib.hid h; have HM := Lib.hid hmap
  have y1 := ta_rn; have y2 := ta_in
  have hup := run_upd_new (W := ((w.alloc (.cells #[.string s] 9)).alloc (.cells #[.slice (some ⟨w.heap.size, 0, none⟩) 1 1, .int .i64 1, .int .i64 now, .int .i64 now] 135))) to_ (.iface 125 (.pointer (some ⟨w.heap.size + 1, 0, none⟩))) (block_alloc (block_alloc hmap _) _) (h.ents (by simp)) hk
  unfold tyM at hup
  obtain ⟨w7, hw7⟩ : ∃ W : World, W = { ((w.alloc (.cells #[.string s] 9)).alloc (.cells #[.slice (some ⟨w.heap.size, 0, none⟩) 1 1, .int .i64 1, .int .i64 now, .int .i64 now] 135)) with heap := ((w.alloc (.cells #[.string s] 9)).alloc (.cells #[.slice (some ⟨w.heap.size, 0, none⟩) 1 1, .int .i64 1, .int .i64 now, .int .i64 now] 135)).heap.setIfInBounds r (.map (es.push { key := .int .i64 to_, val := (.iface 125 (.pointer (some ⟨w.heap.size + 1, 0, none⟩))), born := clk }) (clk + 1)) } := ⟨_, rfl⟩
  rw [← hw7] at hup
  have HW7 := Lib.hid hw7
  have HOKK := Lib.hid hok
  have hlt := blk_lt h.tab
  clear h hmap hok h1 hes hw7
  go_enter Tryd.func23, Tryd.ntmps23
  go_upto_region 21 with (go_at_call 43; (with_reducible refine (H1.out _).mono ?_); rintro e w' ⟨rfl, rfl⟩)
  clear hup hml hnil hl t0 t1 t2 y1 y2 e2 e3 e4 H1
  obtain ⟨hT7, hsz7, hch7⟩ : Tab w7 T (some r) (es.push { key := .int .i64 to_, val := (.iface 125 (.pointer (some ⟨w.heap.size + 1, 0, none⟩))), born := clk }) (clk + 1) c (L ++ [⟨to_, .inc [s] 1 now now, w.heap.size + 1, some ⟨w.heap.size, 0, none⟩, 1⟩]) ∧ w7.heap.size = w.heap.size + 2 ∧ Chg (TOwn T (some r) L) w w7 := by
    rw [HW7.out]
    have hT6 : Tab ((w.alloc (.cells #[.string s] 9)).alloc (.cells #[.slice (some ⟨w.heap.size, 0, none⟩) 1 1, .int .i64 1, .int .i64 now, .int .i64 now] 135)) T (some r) es clk c L := HT.out.below (((Below.refl _ _).alloc (Nat.le_refl _) _).alloc (by simp) _)
    refine ⟨hT6.push (e := ⟨to_, .inc [s] 1 now now, w.heap.size + 1, some ⟨w.heap.size, 0, none⟩, 1⟩) hk ⟨alloc_new' _ _ _ (by simp), SRow.new (Nat.zero_le _) (fun _ => rfl) (block_alloc (alloc_new w _) _) rfl (by simp [maxLen]), fun a e => by cases e; show w.heap.size ≠ w.heap.size + 1; omega, by simp, by omega, hn, hn, fun x hx => by simp at hx; subst hx; exact Nat.le_of_not_lt (fun q => HOKK.out (.inr (.inr q)))⟩ (fun q hq hq2 => ?_), by show (((w.alloc _).alloc _).heap.setIfInBounds r _).size = _; simp, (((Chg.refl _ w).alloc _).alloc _).setObj (.inl (.inr (.inl rfl))) _⟩
    have := HT.out.lt hq2
    rcases hq with rfl | ⟨a, e, rfl⟩
    · dsimp only at this; omega
    · cases e; dsimp only at this; omega
  have HT7 := Lib.hid hT7; have HC7 := Lib.hid hch7
  clear hT7 hch7 HW7
  go_wp2_with fail
  refine (request_any T _ _ _ c _ to_ w7 HT7.out).mono ?_
  rintro e w8 ⟨rfl, hb8⟩
  have HB8 := Lib.hid hb8
  have hz8 := hb8.size
  clear hb8
  go_wp2_with fail
  go_ret3
  refine ⟨some ⟨w8.heap.size, 0, none⟩, 1, some r, _, _, _, rfl, mrow_one (a := req c to_) (by omega) (alloc_new w8 _), (HT7.out.below HB8.out).below ((Below.refl _ _).alloc (Nat.le_refl _) _), by simp [absL], (HC7.out.below HB8.out).alloc _, fun q hq => ⟨?_, fun ⟨a, e, e2⟩ => by cases e; subst e2; have := HT7.out.lt hq; dsimp only at this; omega⟩⟩
  rcases hq with q1 | q1 | ⟨y, hy, q1⟩
  · exact .inl (.inl q1)
  · exact .inl (.inr (.inl q1))
  · rcases List.mem_append.1 hy with hy | hy
    · exact .inl (.inr (.inr ⟨y, hy, q1⟩))
    · simp at hy; subst hy
      rcases q1 with rfl | ⟨a, e, rfl⟩
      · exact .inr (by dsimp only; omega)
      · cases e; exact .inr (Nat.le_refl _)
set_option maxHeartbeats 8000000 in
theorem send_new0 (T : Nat) (es : Array MapEntry) (clk : Nat) (c : Tc) (L : List En) (now to_ : Int) (s : ByteArray) (w : World) (h : Tab w T none es clk c L) (hs : s.size ≤ 9223372036854775807) (hok : ¬ (uniB to_ = false ∨ to_ = c.own ∨ 1024 < s.size)) (hn : In64 now) :
    Calls Tryd.prog 23 #[.pointer (some ⟨T, 0, none⟩), .int .i64 now, .int .i64 to_, .string s] w fun e w' => SendP T none L c w (absL L ++ [(to_, .inc [s] 1 now now)], 0, [req c to_], 0) e w' := by
  have hLn : L = [] := by
    rcases h.map with ⟨-, q⟩ | ⟨r', q, -, -⟩
    · exact q
    · cases q
  subst hLn
  obtain ⟨t0, t1, t2, -⟩ := cellsT h
  obtain ⟨-, z0, z1, z2, -⟩ := cells5 h.tab
  have hl := h.look_none to_ (by simp)
  have H1 := Lib.hid (uni_any to_)
  have h1 : uniB to_ = true := by cases q : uniB to_ <;> simp_all
  have e2 : (to_ == c.own) = false := beq_eq_false_iff_ne.2 (fun q => hok (.inr (.inl q)))
  have e3 : decide ((1024 : Int) < (s.size : Int)) = false := decide_eq_false (fun q => hok (.inr (.inr (by omega))))
  rw [h1] at H1
  have HT := Lib.hid h
  have y1 := ta_rn; have y2 := ta_in
  have hnil := run_map_nn
  have hmk : ∀ W, (Instr.makeMap 100 none).run Tryd.prog W = .ok (.map (some W.heap.size)) (W.alloc (.map #[] 0)) := fun _ => rfl
  have HOKK := Lib.hid hok
  have hlt := blk_lt h.tab
  clear h hok h1
  go_enter Tryd.func23, Tryd.ntmps23
  go_upto_region 20 with (go_at_call 43; (with_reducible refine (H1.out _).mono ?_); rintro e w' ⟨rfl, rfl⟩)
  have hch1 : Chg (fun q => q = T) w ((World.setCell w ⟨T, 2, none⟩ (.map (some w.heap.size))).alloc (.map #[] 0)) := (Chg.setCell (p := ⟨T, 2, none⟩) (Chg.refl (fun q => q = T) w) (.inl rfl) _).alloc _
  have hT1 : Tab ((World.setCell w ⟨T, 2, none⟩ (.map (some w.heap.size))).alloc (.map #[] 0)) T (some w.heap.size) #[] 0 c [] :=
    ⟨block_alloc (cells_eq (block_setCell (k := 2) (v := .map (some w.heap.size)) HT.out.tab) (by simp)) _, .inr ⟨_, rfl, alloc_new' _ _ _ (by simp), by omega⟩, fun _ => ⟨rfl, rfl⟩, List.nodup_nil, fun _ => ⟨fun x hx => by simp at hx, by simp⟩, fun e he => by simp at he, fun e he => by simp at he, List.Pairwise.nil⟩
  have hsz1 : w.heap.size ≤ ((World.setCell w ⟨T, 2, none⟩ (.map (some w.heap.size))).alloc (.map #[] 0)).heap.size := hch1.size
  obtain ⟨r, hr⟩ : ∃ r, w.heap.size = r := ⟨_, rfl⟩
  have HC1 := Lib.hid hch1; have HT1 := Lib.hid hT1
  clear hch1 hT1 t0 t1 t2 z0 z1 z2 hl hnil hmk y1 y2 H1 e2 e3
  rw [hr] at HT1 HC1 hsz1 ⊢
  generalize (World.setCell w ⟨T, 2, none⟩ (.map (some r))).alloc (.map #[] 0) = w1 at *
  obtain ⟨hmap, hrT⟩ : w1.heap[r]? = some (.map #[] 0) ∧ r ≠ T := by
    rcases HT1.out.map with ⟨q, -⟩ | ⟨r', q, q2, q3⟩
    · cases q
    · cases q; exact ⟨q2, q3⟩
  have hup := run_upd_new (W := ((w1.alloc (.cells #[.string s] 9)).alloc (.cells #[.slice (some ⟨w1.heap.size, 0, none⟩) 1 1, .int .i64 1, .int .i64 now, .int .i64 now] 135))) to_ (.iface 125 (.pointer (some ⟨w1.heap.size + 1, 0, none⟩))) (ks := []) (vs := []) (block_alloc (block_alloc hmap _) _) ⟨rfl, rfl⟩ (by simp)
  unfold tyM at hup
  obtain ⟨w7, hw7⟩ : ∃ W : World, W = { ((w1.alloc (.cells #[.string s] 9)).alloc (.cells #[.slice (some ⟨w1.heap.size, 0, none⟩) 1 1, .int .i64 1, .int .i64 now, .int .i64 now] 135)) with heap := ((w1.alloc (.cells #[.string s] 9)).alloc (.cells #[.slice (some ⟨w1.heap.size, 0, none⟩) 1 1, .int .i64 1, .int .i64 now, .int .i64 now] 135)).heap.setIfInBounds r (.map ((#[] : Array MapEntry).push { key := .int .i64 to_, val := (.iface 125 (.pointer (some ⟨w1.heap.size + 1, 0, none⟩))), born := 0 }) (0 + 1)) } := ⟨_, rfl⟩
  rw [← hw7] at hup
  have HW7 := Lib.hid hw7
  have HR := Lib.hid hr
  have hlt1 := blk_lt HT1.out.tab
  obtain ⟨t0, t1, t2, -⟩ := cellsT HT1.out
  clear hmap hw7 hr
  go_upto_region 21 with fail
  clear hup t0 t1 t2
  obtain ⟨hT7, hsz7, hch7⟩ : Tab w7 T (some r) ((#[] : Array MapEntry).push { key := .int .i64 to_, val := (.iface 125 (.pointer (some ⟨w1.heap.size + 1, 0, none⟩))), born := 0 }) (0 + 1) c ([] ++ [⟨to_, .inc [s] 1 now now, w1.heap.size + 1, some ⟨w1.heap.size, 0, none⟩, 1⟩]) ∧ w7.heap.size = w1.heap.size + 2 ∧ Chg (fun q => q = T ∨ q = r) w1 w7 := by
    rw [HW7.out]
    have hT6 : Tab ((w1.alloc (.cells #[.string s] 9)).alloc (.cells #[.slice (some ⟨w1.heap.size, 0, none⟩) 1 1, .int .i64 1, .int .i64 now, .int .i64 now] 135)) T (some r) #[] 0 c [] := HT1.out.below (((Below.refl _ _).alloc (Nat.le_refl _) _).alloc (by simp) _)
    refine ⟨hT6.push (e := ⟨to_, .inc [s] 1 now now, w1.heap.size + 1, some ⟨w1.heap.size, 0, none⟩, 1⟩) (by simp) ⟨alloc_new' _ _ _ (by simp), SRow.new (Nat.zero_le _) (fun _ => rfl) (block_alloc (alloc_new w1 _) _) rfl (by simp [maxLen]), fun a e => by cases e; show w1.heap.size ≠ w1.heap.size + 1; omega, by simp, by omega, hn, hn, fun x hx => by simp at hx; subst hx; exact Nat.le_of_not_lt (fun q => HOKK.out (.inr (.inr q)))⟩ (fun q hq hq2 => ?_), by show (((w1.alloc _).alloc _).heap.setIfInBounds r _).size = _; simp, (((Chg.refl _ w1).alloc _).alloc _).setObj (.inl (.inr rfl)) _⟩
    have := HT1.out.lt hq2
    rcases hq with rfl | ⟨a, e, rfl⟩
    · dsimp only at this; omega
    · cases e; dsimp only at this; omega
  have HT7 := Lib.hid hT7; have HC7 := Lib.hid hch7
  clear hT7 hch7 HW7
  go_wp2_with fail
  refine (request_any T _ _ _ c _ to_ w7 HT7.out).mono ?_
  rintro e w8 ⟨rfl, hb8⟩
  have HB8 := Lib.hid hb8
  have hz8 := hb8.size
  clear hb8
  go_wp2_with fail
  go_ret3
  have hrr := HR.out
  have hCC : Chg (TOwn T none []) w w7 := (HC1.out.mono (fun q e => .inl e)).trans HC7.out (fun q e => e.elim (fun e => .inl (.inl e)) (fun e => .inr (by omega)))
  refine ⟨some ⟨w8.heap.size, 0, none⟩, 1, some r, _, _, _, rfl, mrow_one (a := req c to_) (by omega) (alloc_new w8 _), (HT7.out.below HB8.out).below ((Below.refl _ _).alloc (Nat.le_refl _) _), by simp [absL], (hCC.below HB8.out).alloc _, fun q hq => ⟨?_, fun ⟨a, e, e2⟩ => by cases e; subst e2; have := HT7.out.lt hq; dsimp only at this; omega⟩⟩
  rcases hq with q1 | q1 | ⟨y, hy, q1⟩
  · exact .inl (.inl q1)
  · cases q1; exact .inr (by omega)
  · simp at hy; subst hy
    rcases q1 with rfl | ⟨a, e, rfl⟩
    · exact .inr (by dsimp only; omega)
    · cases e; exact .inr (by dsimp only; omega)
end Go.Proofs.YtmgjcjacoegocaaDoor.Ar
