/-
  Send at a full table (the eviction); Send, Tick, at one table.
-/
import Derived.Test.YtmgjcjacoegocaaDoorArVic
import Derived.Test.YtmgjcjacoegocaaDoorArTick
import Derived.Test.YtmgjcjacoegocaaDoorArInv
import Derived.Deep.AppendLies
namespace Go.Proofs.YtmgjcjacoegocaaDoor.Ar
set_option maxRecDepth 100000
open Go.RowKit Go.Proofs.YtmgjcjacoegocaaDoor.Wire

theorem vic_at (L : List En) (h : 0 < L.length) : ∃ (j : Nat) (x : En), L[j]? = some x ∧ x.k = vicA (absL L) := by
  have hm := vic_mem (A := absL L) (fun e => by have := congrArg List.length e; unfold absL at this; rw [List.length_map] at this; simp at this; rw [this] at h; simp at h)
  rw [abs_keys] at hm
  obtain ⟨x, hx, hk⟩ := List.mem_map.1 hm
  obtain ⟨j, hj⟩ := List.mem_iff_getElem?.1 hx
  exact ⟨j, x, hj, hk⟩
set_option maxHeartbeats 8000000 in
theorem send_full (T r : Nat) (es : Array MapEntry) (clk : Nat) (c : Tc) (L : List En) (now to_ : Int) (s : ByteArray) (w : World) (h : Tab w T (some r) es clk c L) (hs : s.size ≤ 9223372036854775807) (hok : ¬ (uniB to_ = false ∨ to_ = c.own ∨ 1024 < s.size)) (hn : In64 now) (hk : to_ ∉ L.map (·.k)) (hL : 16 ≤ L.length) (hL2 : L.length ≤ 1000) (h64 : ∀ e ∈ L, In64 e.k) :
    Calls Tryd.prog 23 #[.pointer (some ⟨T, 0, none⟩), .int .i64 now, .int .i64 to_, .string s] w fun e w' => SendP T (some r) L c w (roomA (absL L) ++ [(to_, .inc [s] 1 now now)], 0, [req c to_], 0) e w' := by
  obtain ⟨hmap, hrT⟩ : w.heap[r]? = some (.map es clk) ∧ r ≠ T := by
    rcases h.map with ⟨q, -⟩ | ⟨r', q, q2, q3⟩
    · cases q
    · cases q; exact ⟨q2, q3⟩
  obtain ⟨t0, t1, t2, -⟩ := cellsT h
  have hl := h.look_none to_ hk
  have hes := es_size (h.ents (by simp))
  have hml := run_map_len hmap
  rw [hes] at hml
  have hnil := run_map_nil
  have H1 := Lib.hid (uni_any to_)
  have h1 : uniB to_ = true := by cases q : uniB to_ <;> simp_all
  have e2 : (to_ == c.own) = false := beq_eq_false_iff_ne.2 (fun q => hok (.inr (.inl q)))
  have e3 : decide ((1024 : Int) < (s.size : Int)) = false := decide_eq_false (fun q => hok (.inr (.inr (by omega))))
  have e4 : decide ((16 : Int) ≤ (L.length : Int)) = true := decide_eq_true (by omega)
  rw [h1] at H1
  have HT := Lib.hid h; have HM := Lib.hid hmap
  have y1 := ta_rn; have y2 := ta_in
  have HOKK := Lib.hid hok
  have HKK := Lib.hid hk
  have HMID := HT
  clear h hmap hok h1 hes hk
  go_enter Tryd.func23, Tryd.ntmps23
  go_upto_region 17 with (go_at_call 43; (with_reducible refine (H1.out _).mono ?_); rintro e w' ⟨rfl, rfl⟩)
  refine wp_region_held_drew (S := fun w' => w'.cell? ⟨T, 2, none⟩ = some (.map (some r))) (by kernel_rfl) t2 ?_
  intro hS
  refine wpAnyH_take (i := 0) (v := ?va0) rfl (by kernel_rfl) (by kernel_rfl) (by kernel_rfl) (fun _ _ _ h => h) (Or.inl ⟨by rfl, ?hya0⟩) (by exact hS) ?rea0
  case hya0 => (intro ww hSw; (try dsimp only at hSw); go_simp; first | done | with_reducible rfl)
  try simp only [Act.put]
  refine wpAnyH_take (i := 1) (v := ?va1) rfl (by kernel_rfl) (by kernel_rfl) (by kernel_rfl) (fun _ _ _ h => h) (Or.inl ⟨by rfl, ?hya1⟩) (by exact hS) ?rea1
  case hya1 => (intro ww hSw; (try dsimp only at hSw); go_simp; first | done | with_reducible rfl)
  try simp only [Act.put]
  refine wpAnyH_take (i := 2) (v := ?va2) rfl (by kernel_rfl) (by kernel_rfl) (by kernel_rfl) (fun _ _ _ h => h) (Or.inl ⟨by rfl, ?hya2⟩) (by exact hS) ?rea2
  case hya2 => (intro ww hSw; (try dsimp only at hSw); go_simp; first | done | with_reducible rfl)
  try simp only [Act.put]
  refine wpAnyH_take (i := 3) (v := ?va3) rfl (by kernel_rfl) (by kernel_rfl) (by kernel_rfl) (fun _ _ _ h => h) (Or.inl ⟨by rfl, ?hya3⟩) (by exact hS) ?rea3
  case hya3 => (intro ww hSw; (try dsimp only at hSw); go_simp; first | done | with_reducible rfl)
  try simp only [Act.put]
  refine wpAnyH_take (i := 4) (v := ?va4) rfl (by kernel_rfl) (by kernel_rfl) (by kernel_rfl) (fun _ _ _ h => h) (Or.inl ⟨by rfl, ?hya4⟩) (by exact hS) ?rea4
  case hya4 => (intro ww hSw; (try dsimp only at hSw); go_simp; first | done | with_reducible rfl)
  try simp only [Act.put]
  refine wpAnyH_ready (rs := [5]) (by kernel_rfl) (by simp) ?_
  refine AllReadyH.cons rfl (fun K5 hK5 => ?_) AllReadyH.nil
  go_simp
  go_at_call 60
  refine (victim_any T (some r) es clk c L _ HT.out.drew hL2 h64).mono ?_
  rintro e5 w5 ⟨rfl, hb5⟩
  have HB5 := Lib.hid (show Below w.heap.size w w5 from ⟨hb5.os, hb5.tape, hb5.output, hb5.size, hb5.block⟩)
  clear hb5
  have HT5 := Lib.hid (HT.out.below HB5.out)
  have t5 : w5.cell? ⟨T, 2, none⟩ = some (.map (some r)) := (cellsT HT5.out).2.2.1
  go_simp
  refine hK5.out _ _ t5 (fun _ => ?_)
  refine wpAnyH_ready (rs := [6]) (by kernel_rfl) (by simp) ?_
  refine AllReadyH.cons rfl (fun K6 hK6 => ?_) AllReadyH.nil
  obtain ⟨jv, xv, hjv, hxv⟩ := vic_at L (by omega)
  obtain ⟨vk, hvk⟩ : ∃ vk, vicA (absL L) = vk := ⟨_, rfl⟩
  rw [hvk] at hxv ⊢
  obtain ⟨w6, hw6⟩ : ∃ w6 : World, w6 = { w5 with heap := w5.heap.setIfInBounds r (.map (es.eraseIdxIfInBounds jv) clk) } := ⟨_, rfl⟩
  have hdel : ∀ ty, (Builtin.delete_ #[100, 3] ty #[.map (some r), .int .i64 vk]).run Tryd.prog w5 = .ok (.tuple #[]) w6 := fun ty => by
    rw [hw6, ← hxv]
    rcases HT5.out.map with ⟨q, -⟩ | ⟨r', q, hm, -⟩
    · cases q
    · cases q; exact run_del xv.k ty hm (HT5.out.ents (by simp)) HT5.out.nod (keys_at hjv).1 (keys_at hjv).2
  have hT6 : Tab w6 T (some r) (es.eraseIdxIfInBounds jv) clk c (L.eraseIdx jv) := by rw [hw6]; exact HT5.out.del jv
  have hC6 : Chg (TOwn T (some r) L) w w6 := by rw [hw6]; exact (Chg.of_below HB5.out).trans (S' := TOwn T (some r) L) (Chg.setObj (Chg.refl _ _) (.inl (.inr (.inl rfl))) _) (fun q hq => .inl hq)
  have habs : absL (L.eraseIdx jv) = roomA (absL L) := by
    unfold roomA
    rw [abs_erase, if_pos (show 16 ≤ (absL L).length by unfold absL; rw [List.length_map]; exact hL), hvk]
    exact erase_key (v := xv.v) (by rw [abs_keys]; exact HT.out.nod) (by unfold absL; rw [List.getElem?_map, hjv, ← hxv]; rfl)
  have hk6 : to_ ∉ (L.eraseIdx jv).map (·.k) := fun q => HKK.out (((List.eraseIdx_sublist _ _).map _).subset q)
  have hsub6 : ∀ q, TOwn T (some r) (L.eraseIdx jv) q → TOwn T (some r) L q := fun q hq => by
    rcases hq with u | u | ⟨y, hy, u⟩
    · exact .inl u
    · exact .inr (.inl u)
    · exact .inr (.inr ⟨y, (List.eraseIdx_sublist _ _).subset hy, u⟩)
  have HT6 := Lib.hid hT6; have HC6 := Lib.hid hC6; have HABS := Lib.hid habs; have HK6 := Lib.hid hk6; have HSUB := Lib.hid hsub6
  have hsz6 := hC6.size
  clear hw6 hT6 hC6 habs hk6 hsub6 hjv hxv hvk
  go_simp
  refine hK6.out _ _ (cellsT HT6.out).2.2.1 (fun _ => ?_)
  refine wpAnyH_done (by kernel_rfl) ?_ _
  clear hdel t5 t0 t1 t2 hl hml
  generalize es.eraseIdxIfInBounds jv = es6 at *
  generalize L.eraseIdx jv = L6 at *
  obtain ⟨hmap, -⟩ : w6.heap[r]? = some (.map es6 clk) ∧ r ≠ T := by
    rcases HT6.out.map with ⟨q, -⟩ | ⟨r', q, q2, q3⟩
    · cases q
    · cases q; exact ⟨q2, q3⟩
  obtain ⟨t0, t1, t2, -⟩ := cellsT HT6.out
  have hlt := blk_lt HT6.out.tab
  have hup := run_upd_new (W := ((w6.alloc (.cells #[.string s] 9)).alloc (.cells #[.slice (some ⟨w6.heap.size, 0, none⟩) 1 1, .int .i64 1, .int .i64 now, .int .i64 now] 135))) to_ (.iface 125 (.pointer (some ⟨w6.heap.size + 1, 0, none⟩))) (block_alloc (block_alloc hmap _) _) (HT6.out.ents (by simp)) HK6.out
  unfold tyM at hup
  obtain ⟨w7, hw7⟩ : ∃ W : World, W = { ((w6.alloc (.cells #[.string s] 9)).alloc (.cells #[.slice (some ⟨w6.heap.size, 0, none⟩) 1 1, .int .i64 1, .int .i64 now, .int .i64 now] 135)) with heap := ((w6.alloc (.cells #[.string s] 9)).alloc (.cells #[.slice (some ⟨w6.heap.size, 0, none⟩) 1 1, .int .i64 1, .int .i64 now, .int .i64 now] 135)).heap.setIfInBounds r (.map (es6.push { key := .int .i64 to_, val := (.iface 125 (.pointer (some ⟨w6.heap.size + 1, 0, none⟩))), born := clk }) (clk + 1)) } := ⟨_, rfl⟩
  rw [← hw7] at hup
  have HW7 := Lib.hid hw7
  clear hmap hw7
  go_upto_region 21 with fail
  clear hup hnil t0 t1 t2
  obtain ⟨hT7, hsz7, hch7⟩ : Tab w7 T (some r) (es6.push { key := .int .i64 to_, val := (.iface 125 (.pointer (some ⟨w6.heap.size + 1, 0, none⟩))), born := clk }) (clk + 1) c (L6 ++ [⟨to_, .inc [s] 1 now now, w6.heap.size + 1, some ⟨w6.heap.size, 0, none⟩, 1⟩]) ∧ w7.heap.size = w6.heap.size + 2 ∧ Chg (TOwn T (some r) L6) w6 w7 := by
    rw [HW7.out]
    have hT6b : Tab ((w6.alloc (.cells #[.string s] 9)).alloc (.cells #[.slice (some ⟨w6.heap.size, 0, none⟩) 1 1, .int .i64 1, .int .i64 now, .int .i64 now] 135)) T (some r) es6 clk c L6 := HT6.out.below (((Below.refl _ _).alloc (Nat.le_refl _) _).alloc (by simp) _)
    refine ⟨hT6b.push (e := ⟨to_, .inc [s] 1 now now, w6.heap.size + 1, some ⟨w6.heap.size, 0, none⟩, 1⟩) HK6.out ⟨alloc_new' _ _ _ (by simp), SRow.new (Nat.zero_le _) (fun _ => rfl) (block_alloc (alloc_new w6 _) _) rfl (by simp [maxLen]), fun a e => by cases e; show w6.heap.size ≠ w6.heap.size + 1; omega, by simp, by omega, hn, hn, fun x hx => by simp at hx; subst hx; exact Nat.le_of_not_lt (fun q => HOKK.out (.inr (.inr q)))⟩ (fun q hq hq2 => ?_), by show (((w6.alloc _).alloc _).heap.setIfInBounds r _).size = _; simp, (((Chg.refl _ w6).alloc _).alloc _).setObj (.inl (.inr (.inl rfl))) _⟩
    have := HT6.out.lt hq2
    rcases hq with rfl | ⟨a, e, rfl⟩
    · dsimp only at this; omega
    · cases e; dsimp only at this; omega
  have HT7 := Lib.hid hT7; have HC7 := Lib.hid hch7
  clear hT7 hch7 HW7
  go_wp2_with fail
  refine (request_any T _ _ _ c _ to_ w7 HT7.out).mono ?_
  rintro e w8 ⟨rfl, hb8⟩
  have HB8 := Lib.hid hb8
  have hz8 := hb8.size
  clear hb8
  go_wp2_with fail
  go_ret3
  refine ⟨some ⟨w8.heap.size, 0, none⟩, 1, some r, _, _, _, rfl, mrow_one (a := req c to_) (by omega) (alloc_new w8 _), (HT7.out.below HB8.out).below ((Below.refl _ _).alloc (Nat.le_refl _) _), by rw [← HABS.out]; simp [absL], ((HC6.out.trans HC7.out (fun q hq => .inl (HSUB.out q hq))).below HB8.out).alloc _, fun q hq => ⟨?_, fun ⟨a, e, e2⟩ => by cases e; subst e2; have := HT7.out.lt hq; dsimp only at this; omega⟩⟩
  rcases hq with q1 | q1 | ⟨y, hy, q1⟩
  · exact .inl (.inl q1)
  · exact .inl (.inr (.inl q1))
  · rcases List.mem_append.1 hy with hy | hy
    · exact .inl (HSUB.out q (.inr (.inr ⟨y, hy, q1⟩)))
    · simp at hy; subst hy
      rcases q1 with rfl | ⟨a, e, rfl⟩
      · exact .inr (by dsimp only; omega)
      · cases e; exact .inr (by dsimp only; omega)
section
variable {w W W' : World} {T : Nat} {c : Tc} {A : AL} {K : Nat → Prop}
theorem OneA.sendF (h : OneA w T c A K W) (now to_ : Int) (s : ByteArray) (A' : AL) (mac : Int) (out : List Am) (err : Int) (he : sendF c A now to_ s = (A', mac, out, err)) (hs : s.size ≤ 9223372036854775807) (hn : In64 now) (hA : A.length ≤ 1000) (h64 : ∀ x ∈ A, In64 x.1) :
    Calls Tryd.prog 23 #[.pointer (some ⟨T, 0, none⟩), .int .i64 now, .int .i64 to_, .string s] W fun x W' =>
      ∃ (B : Option Addr) (k : Nat), x = .returned (.tuple #[.int .i64 mac, .slice B out.length k, .int .i64 err]) ∧ MRow W' W.heap.size B k out ∧ OneA w T c A' (fun q => (K q ∧ q < W.heap.size) ∨ BK B q) W' ∧ Kept K W W' := by
  by_cases h16 : A.length < 16
  · rw [sendF_room h16] at he
    exact h.send now to_ s A' mac out err he hs hn h16
  obtain ⟨m, es, clk, L, ht, ha, h3⟩ := h.ex
  have hL : L.length = A.length := by have := congrArg List.length ha; unfold absL at this; rw [List.length_map] at this; exact this
  have h64L : ∀ e ∈ L, In64 e.k := fun e he => h64 (e.k, e.v) (by rw [← ha]; exact List.mem_map_of_mem he)
  have key : Calls Tryd.prog 23 #[.pointer (some ⟨T, 0, none⟩), .int .i64 now, .int .i64 to_, .string s] W fun e w' => SendP T m L c W (Ar.sendF c (absL L) now to_ s) e w' := by
    unfold Ar.sendF
    by_cases hb : uniB to_ = false ∨ to_ = c.own ∨ 1024 < s.size
    · rw [if_pos hb]
      refine (send_bad T m es clk c L now to_ s W ht hs hb).mono ?_
      rintro x W' ⟨rfl, rfl⟩
      exact ⟨none, 0, m, es, clk, L, rfl, SRow.nil _ _ _ _ _, ht, rfl, Chg.refl _ _, fun q hq => ⟨.inl hq, bk_none q⟩⟩
    · rw [if_neg hb]
      by_cases hk : to_ ∈ L.map (·.k)
      · obtain ⟨x, hx, hxk⟩ := List.mem_map.1 hk
        obtain ⟨j, hj⟩ := List.getElem?_of_mem hx
        obtain ⟨k, v, eb, Hb, hc⟩ := x
        dsimp only at hxk
        subst hxk
        have hlk := look_at ht.nod hj
        dsimp only at hlk
        rw [hlk]
        cases v with
        | inc held sent first last => exact send_inc T m es clk c L now k s W ht hs hb hj
        | res mc since used => exact send_res T m es clk c L now k s W ht hs hb hn hj
      · rw [look_no hk]
        cases m with
        | none =>
          have : L = [] := by
            rcases ht.map with ⟨-, q⟩ | ⟨r', q, -⟩
            · exact q
            · cases q
          rw [this] at hL; simp at hL; omega
        | some r => exact send_full T r es clk c L now to_ s W ht hs hb hn hk (by omega) (by omega) h64L
  refine key.mono ?_
  intro x W' hx
  rw [ha, he] at hx
  obtain ⟨B, k, m', es', clk', L', rfl, hm, ht', ha', hc, hn'⟩ := hx
  obtain ⟨q1, q2⟩ := h.after (K' := fun q => BK B q) ht' h3 hc hn'
  rw [ha'] at q1
  exact ⟨B, k, rfl, hm, q1, q2⟩
theorem OneA.tick (h : OneA w T c A K W) (now : Int) (A' : AL) (out : List Am) (held : List Hp) (he : tickA c A now = (A', out, held)) (hn : In64 now) (hA : A.length ≤ 1000) (h64 : ∀ x ∈ A, In64 x.1) (hne : ∀ x ∈ A, x.2.some_) :
    Calls Tryd.prog 22 #[.pointer (some ⟨T, 0, none⟩), .int .i64 now] W fun x W' =>
      ∃ (B : Option Addr) (k : Nat) (D : Option Addr) (d : Nat), x = .returned (.tuple #[.slice B out.length k, .slice D held.length d]) ∧ MRow W' W.heap.size B k out ∧ HRow W' W.heap.size D d held ∧ OneA w T c A' (fun q => (K q ∧ q < W.heap.size) ∨ BK B q ∨ BK D q) W' ∧ Kept K W W' := by
  obtain ⟨m, es, clk, L, ht, ha, h3⟩ := h.ex
  have hL : L.length = A.length := by have := congrArg List.length ha; unfold absL at this; rw [List.length_map] at this; exact this
  refine (tick_any T m es clk c L now W ht (by omega) (fun e he => h64 (e.k, e.v) (by rw [← ha]; exact List.mem_map_of_mem he)) hn (fun e he => hne (e.k, e.v) (by rw [← ha]; exact List.mem_map_of_mem he))).mono ?_
  intro x W' hx
  rw [ha, he] at hx
  obtain ⟨B, k, D, d, es', clk', L', rfl, hm, hh, ht', ha', hc, hn', -⟩ := hx
  obtain ⟨q1, q2⟩ := h.after (K' := fun q => BK B q ∨ BK D q) ht' h3 hc (fun q hq => ⟨(hn' q hq).1, fun s => s.elim (hn' q hq).2.1 (hn' q hq).2.2⟩)
  rw [ha'] at q1
  exact ⟨B, k, D, d, rfl, hm, hh, q1, q2⟩
end
theorem Inv.in64 {A : AL} {now : Int} (h : Inv A now) : ∀ x ∈ A, In64 x.1 := fun x hx => by have := h.key x hx; unfold In64; omega
theorem Inv.some_ {A : AL} {now : Int} (h : Inv A now) : ∀ x ∈ A, x.2.some_ := fun x hx => by
  have := h.ev x hx
  obtain ⟨k, v⟩ := x
  cases v with
  | inc held sent first last => exact this.1.1
  | res mac since used => trivial
theorem Inv.le {A : AL} {now : Int} (h : Inv A now) : A.length ≤ 1000 := Nat.le_trans h.len (by omega)
end Go.Proofs.YtmgjcjacoegocaaDoor.Ar
