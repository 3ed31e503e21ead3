/-
  The contract of (*Table).victim.
-/
import Derived.Test.YtmgjcjacoegocaaDoorArVic0
import Derived.Test.YtmgjcjacoegocaaDoorRound
import Derived.Test.YtmgjcjacoegocaaDoorHeld
import Derived.WalkMore
import Derived.Deep.RegionHeld3
import Derived.BigQuiet
import Derived.Deep.QuietTactic
namespace Go.Proofs.YtmgjcjacoegocaaDoor.Ar
set_option maxRecDepth 100000
open Go.RowKit Go.Proofs.YtmgjcjacoegocaaDoor.Wire Go.Shelf
attribute [local go_sem] Oper.semAt_some

theorem inOrder_any (T : Nat) (w : World) : Calls Tryd.prog 56 #[.pointer (some ⟨T, 0, none⟩)] w fun x w' =>
    x = .returned (.func (Fn.func 88) #[] #[.pointer (some ⟨w.heap.size, 0, none⟩)]) ∧ w' = w.alloc (.cells #[.pointer (some ⟨T, 0, none⟩)] 43) := by
  go_enter Tryd.func56, Tryd.ntmps56
  go_wp2_with fail
  go_ret
  exact ⟨rfl, rfl⟩
/-- two readings of one table have the same entry under a key -/
theorem Tab.same_val {W : World} {T : Nat} {m m' : Option Nat} {es es' : Array MapEntry} {clk clk' : Nat} {c c' : Tc} {L L' : List En} (h : Tab W T m es clk c L) (h' : Tab W T m' es' clk' c' L') {j j' : Nat} {e e' : En} (hj : L[j]? = some e) (hj' : L'[j']? = some e') (hk : e.k = e'.k) : e.val = e'.val := by
  have h1 := h.tab
  rw [h'.tab] at h1
  have hm : m' = m := by simp only [Option.some.injEq, Obj.cells.injEq, Array.mk.injEq, List.cons.injEq, Value.map.injEq] at h1; exact h1.1.2.2.1
  have q1 := h.look_some hj
  have q2 := h'.look_some hj'
  rw [hm, ← hk] at q2
  rw [q1] at q2
  injection q2
/-- the choice ahead of round i -/
def vicAt (L : List En) (i : Nat) : Int × Int × Bool := ((absL (ordL L)).take i).foldl vicStep (0, 0, false)
def VBox (w : World) (s : Int × Int × Bool) (W : World) : Prop :=
  W.heap[w.heap.size]? = some (.cells #[.int .i64 s.1] 3) ∧ W.heap[w.heap.size + 1]? = some (.cells #[.int .i64 s.2.1] 3) ∧ W.heap[w.heap.size + 2]? = some (.cells #[.bool s.2.2] 4)
structure VSt (w : World) (T : Nat) (s : Int × Int × Bool) (f : Nat) (o : Obj) (W : World) : Prop where
  old : Below w.heap.size w W
  box : VBox w s W
  ix : BoxT W (w.heap.size + 3) T
  fo : W.heap[f]? = some o
  big : w.heap.size + 6 ≤ W.heap.size
  fl : w.heap.size + 4 ≤ f ∧ f ≠ w.heap.size + 5
section
variable {w : World} {T : Nat} {s : Int × Int × Bool} {f : Nat} {o : Obj} {W W' : World}
theorem VSt.below (h : VSt w T s f o W) (hb : Below W.heap.size W W') : VSt w T s f o W' :=
  ⟨below_call h.old hb, ⟨bblock hb h.box.1, bblock hb h.box.2.1, bblock hb h.box.2.2⟩, bblock hb h.ix, bblock hb h.fo, Nat.le_trans h.big hb.size, h.fl⟩
theorem VSt.put (h : VSt w T s f o W) (x : Obj) : VSt w T s f o (W.putObj (w.heap.size + 5) x) := by
  have hz := h.big
  have hk : ∀ q, q ≠ w.heap.size + 5 → (W.putObj (w.heap.size + 5) x).heap[q]? = W.heap[q]? := fun q hq => World.putObj_heap_other hq
  exact ⟨⟨h.old.os, h.old.tape, h.old.output, by simpa [World.putObj] using h.old.size, fun q hq => (hk q (by omega)).trans (h.old.block q hq)⟩,
    ⟨(hk _ (by omega)).trans h.box.1, (hk _ (by omega)).trans h.box.2.1, (hk _ (by omega)).trans h.box.2.2⟩, (hk _ (by omega)).trans h.ix, (hk _ h.fl.2).trans h.fo, by simpa [World.putObj] using hz, h.fl⟩
theorem VSt.drew (h : VSt w T s f o W) : VSt w T s f o W.drew := h.below (Below.refl _ _).drew
theorem VSt.set {s' : Int × Int × Bool} {j : Nat} {v : Value} (h : VSt w T s f o W) (hj : j ≤ 2) (hb : VBox w s' (W.setCell ⟨w.heap.size + j, 0, none⟩ v)) (hfj : f ≠ w.heap.size + j) : VSt w T s' f o (W.setCell ⟨w.heap.size + j, 0, none⟩ v) := by
  have hz := h.big
  have hk : ∀ q, q ≠ w.heap.size + j → (W.setCell ⟨w.heap.size + j, 0, none⟩ v).heap[q]? = W.heap[q]? := fun q hq => Below.heap_setCell _ _ _ _ hq
  exact ⟨⟨h.old.os, h.old.tape, h.old.output, by simpa [World.setCell] using h.old.size, fun q hq => (hk q (by omega)).trans (h.old.block q hq)⟩, hb, (hk _ (by omega)).trans h.ix, (hk _ hfj).trans h.fo, by simpa [World.setCell] using hz, h.fl⟩
theorem VSt.set0 {ch wn : Int} {hf : Bool} (h : VSt w T (ch, wn, hf) f o W) (k : Int) : VSt w T (k, wn, hf) f o (W.setCell ⟨w.heap.size, 0, none⟩ (.int .i64 k)) := by
  have hb : VBox w (k, wn, hf) (W.setCell ⟨w.heap.size, 0, none⟩ (.int .i64 k)) := ⟨by rw [block_setCell (k := 0) h.box.1]; simp, (Below.heap_setCell _ _ _ _ (by show w.heap.size + 1 ≠ w.heap.size; omega)).trans h.box.2.1, (Below.heap_setCell _ _ _ _ (by show w.heap.size + 2 ≠ w.heap.size; omega)).trans h.box.2.2⟩
  exact h.set (j := 0) (by omega) hb (by have := h.fl; omega)
theorem VSt.set1 {ch wn : Int} {hf : Bool} (h : VSt w T (ch, wn, hf) f o W) (k : Int) : VSt w T (ch, k, hf) f o (W.setCell ⟨w.heap.size + 1, 0, none⟩ (.int .i64 k)) :=
  h.set (j := 1) (by omega) ⟨(Below.heap_setCell _ _ _ _ (by show w.heap.size ≠ w.heap.size + 1; omega)).trans h.box.1, by rw [block_setCell (k := 0) h.box.2.1]; simp, (Below.heap_setCell _ _ _ _ (by show w.heap.size + 2 ≠ w.heap.size + 1; omega)).trans h.box.2.2⟩ (by have := h.fl; omega)
theorem VSt.set2 {ch wn : Int} {hf : Bool} (h : VSt w T (ch, wn, hf) f o W) (b : Bool) : VSt w T (ch, wn, b) f o (W.setCell ⟨w.heap.size + 2, 0, none⟩ (.bool b)) :=
  h.set (j := 2) (by omega) ⟨(Below.heap_setCell _ _ _ _ (by show w.heap.size ≠ w.heap.size + 2; omega)).trans h.box.1, (Below.heap_setCell _ _ _ _ (by show w.heap.size + 1 ≠ w.heap.size + 2; omega)).trans h.box.2.1, by rw [block_setCell (k := 0) h.box.2.2]; simp⟩ (by have := h.fl; omega)
end
theorem vicAt_succ {L : List En} {i : Nat} {e : En} (he : (ordL L)[i]? = some e) : vicAt L (i + 1) = vicStep (vicAt L i) (e.k, e.v) := by
  unfold vicAt
  have h : (absL (ordL L))[i]? = some (e.k, e.v) := by unfold absL; rw [List.getElem?_map, he]; rfl
  rw [List.take_add_one, h, List.foldl_append]; rfl
theorem vicAt_all (L : List En) : (vicAt L L.length).1 = vicA (absL L) := by
  unfold vicAt vicA
  rw [ordL_abs]
  rw [List.take_of_length_le]
  rw [← ordL_abs]; unfold absL; rw [List.length_map, ordL_len]; exact Nat.le_refl _
def vicAct (w : World) (T : Nat) (e : En) : Act := { tmps := #[.pointer (some ⟨T, 0, none⟩), undef, .int .i64 0, .pointer (some ⟨w.heap.size, 0, none⟩), .pointer (some ⟨w.heap.size + 1, 0, none⟩), .pointer (some ⟨w.heap.size + 2, 0, none⟩), .int .i64 e.k, e.val, undef, undef, .pointer (some ⟨T, 0, none⟩), .func (Fn.func 88) #[] #[.pointer (some ⟨w.heap.size + 3, 0, none⟩)], .int .i64 e.k, e.val, undef, undef, undef, undef, undef, undef, undef, undef, undef, undef, undef, undef, undef, undef, undef, undef, undef, undef, undef, undef, undef, undef, undef, undef, undef, undef, undef, undef, undef, undef, undef, undef, undef, undef, undef, undef, undef, undef, undef, undef, undef, undef], defers := [] }
def argV (L : List En) (i : Nat) : Array Value := match (ordL L)[i]? with | some e => #[.int .i64 e.k, e.val] | none => #[.int .i64 0, .nilIface]
theorem argV_of {L : List En} {i : Nat} {e : En} (h : (ordL L)[i]? = some e) : argV L i = #[.int .i64 e.k, e.val] := by unfold argV; rw [h]
set_option maxHeartbeats 8000000 in
theorem victim_any (T : Nat) (m : Option Nat) (es : Array MapEntry) (clk : Nat) (c : Tc) (L : List En) (w : World) (h : Tab w T m es clk c L) (hL : L.length ≤ 1000) (h64 : ∀ e ∈ L, In64 e.k) :
    Calls Tryd.prog 60 #[.pointer (some ⟨T, 0, none⟩)] w fun x w' => x = .returned (.int .i64 (vicA (absL L))) ∧ Below w.heap.size w w' := by
  have H1 := Lib.hid (block_alloc (block_alloc (block_alloc (alloc_new w (.cells #[.int .i64 0] 3)) (.cells #[.int .i64 0] 3)) (.cells #[.bool false] 4)) (.cells #[.pointer (some ⟨T, 0, none⟩)] 43))
  have H2 := Lib.hid (block_alloc (block_alloc (alloc_new' (w.alloc (.cells #[.int .i64 0] 3)) (.cells #[.int .i64 0] 3) (w.heap.size + 1) (by simp)) (.cells #[.bool false] 4)) (.cells #[.pointer (some ⟨T, 0, none⟩)] 43))
  have H3 := Lib.hid (block_alloc (alloc_new' ((w.alloc (.cells #[.int .i64 0] 3)).alloc (.cells #[.int .i64 0] 3)) (.cells #[.bool false] 4) (w.heap.size + 2) (by simp)) (.cells #[.pointer (some ⟨T, 0, none⟩)] 43))
  have H4 := Lib.hid (alloc_new' (((w.alloc (.cells #[.int .i64 0] 3)).alloc (.cells #[.int .i64 0] 3)).alloc (.cells #[.bool false] 4)) (.cells #[.pointer (some ⟨T, 0, none⟩)] 43) (w.heap.size + 3) (by simp))
  have HB := Lib.hid (below_alloc (o := .cells #[.pointer (some ⟨T, 0, none⟩)] 43) (below_alloc (o := .cells #[.bool false] 4) (below_alloc (o := .cells #[.int .i64 0] 3) (below_alloc (o := .cells #[.int .i64 0] 3) (Below.refl w.heap.size w)))))
  have HSZ : Hid (((((w.alloc (.cells #[.int .i64 0] 3)).alloc (.cells #[.int .i64 0] 3)).alloc (.cells #[.bool false] 4)).alloc (.cells #[.pointer (some ⟨T, 0, none⟩)] 43)).heap.size = w.heap.size + 4) := Lib.hid (by simp)
  have HT := Lib.hid h; clear h
  refine (callsIn_wide (n := 9)).1 ?_
  refine callsIn_of_wp_marks Tryd.func60 rfl trivial ?_ rfl
  simp only [Tryd.ntmps60, List.size_toArray, List.length_cons, List.length_nil, Nat.reduceAdd, Nat.reduceSub, Array.replicate_succ, Array.replicate_zero, List.push_toArray, List.append_toArray, List.nil_append, List.cons_append]
  refine wpIn_wide.2 ?_
  go_wp2_with (go_at_call 56; refine (inOrder_any T _).mono ?_; rintro e w' ⟨rfl, rfl⟩)
  generalize (((w.alloc (.cells #[.int .i64 0] 3)).alloc (.cells #[.int .i64 0] 3)).alloc (.cells #[.bool false] 4)).alloc (.cells #[.pointer (some ⟨T, 0, none⟩)] 43) = W0 at *
  have hsz := HSZ.out
  refine (wpIn_wide (n := 9)).1 ?_
  have HKL : Hid ((sortK L).length = L.length) := Lib.hid (by unfold sortK; rw [List.length_mergeSort, List.length_map])
  refine wpIn_rangeFunc_at (ι := Nat × Nat × Obj) (F := Fence.wide) rfl (by omega) (gf := 88) (lb := #[.pointer (some ⟨w.heap.size + 3, 0, none⟩)]) rfl trivial (enters_of Tryd.func88 (by kernel_rfl) rfl)
    (fun x => argV L x.1) (fun x => by unfold argV; split <;> rfl) (fun W => Below W0.heap.size W0 W ∧ w.heap.size + 6 ≤ W.heap.size)
    (fun x W => ∃ e, (ordL L)[x.1]? = some e ∧ VSt w T (vicAt L x.1) x.2.1 x.2.2 W) (fun x W => VSt w T (vicAt L (x.1 + 1)) x.2.1 x.2.2 W) (fun _ _ => False)
    (fun W => ∃ f o, VSt w T (vicAt L L.length) f o W)
    (fun o o' => ⟨((Below.refl _ _).alloc (Nat.le_refl _) o).alloc (by simp) o', by simp; omega⟩) (fun x W o hx => by rw [hsz]; exact hx.put o) (fun c W o hx => hx) (fun W o hx => by obtain ⟨f, o', hx⟩ := hx; rw [hsz]; exact ⟨f, o', hx.put o⟩)
    (fun l r W hl h0 hk hY => ?iter) (fun x a W => VSt w T (vicAt L x.1) x.2.1 x.2.2 W ∧ ∃ e, (ordL L)[x.1]? = some e ∧ a = vicAct w T e) (fun x a W o hx => ?ja) ?assign ?body ?done ?stop
  case ja => rw [hsz]; exact ⟨hx.1.put o, hx.2⟩
  case iter =>
    have hbase : ∀ W1 f o, Below W0.heap.size W0 W1 → w.heap.size + 6 ≤ W1.heap.size → W1.heap[f]? = some o → (w.heap.size + 4 ≤ f ∧ f ≠ w.heap.size + 5) → VSt w T (vicAt L 0) f o W1 := fun W1 f o hb hz ho hf =>
      ⟨below_call HB.out hb, ⟨bblock hb H1.out, bblock hb H2.out, bblock hb H3.out⟩, bblock hb H4.out, ho, hz, hf⟩
    have hmain := inOrder1_wide 8 (by omega) T (w.heap.size + 3) l r (sortK L) (by rw [HKL.out]; exact hL) (fun W => Below W0.heap.size W0 W ∧ w.heap.size + 6 ≤ W.heap.size) (fun f o i W => VSt w T (vicAt L i) f o W) (fun _ _ => False)
      (fun W1 h1 => ⟨bblock h1.1 H4.out, m, es, clk, c, L, HT.out.below (below_call HB.out h1.1), h64, hL, rfl⟩)
      (fun W1 W2 f o h1 hb hf ho => hbase W2 f o (below_call h1.1 hb) (Nat.le_trans h1.2 hb.size) ho (by have := h1.2; omega))
      (fun W1 W2 h1 hb he => by
        have hlt : w.heap.size + 4 < W2.heap.size := by have := h1.2; have := hb.size; omega
        exact ⟨w.heap.size + 4, _, hbase W2 _ _ (below_call h1.1 hb) (Nat.le_trans h1.2 hb.size) (Array.getElem?_eq_getElem hlt) (by omega)⟩)
      (fun f o i k W1 h1 he => by
        obtain ⟨e, q1, q2⟩ := ordL_at he
        obtain ⟨j, q3⟩ := List.mem_iff_getElem?.1 (ordL_mem (List.mem_of_getElem? q1))
        exact ⟨h1.fo, h1.ix, m, es, clk, c, L, j, e, HT.out.below h1.old, q3, q2⟩)
      (fun f o i e W1 he h1 hk1 ht => by
        obtain ⟨m', es', clk', c', L', j', ht', hj'⟩ := ht
        obtain ⟨e2, q1, q2⟩ := ordL_at he
        obtain ⟨j, q3⟩ := List.mem_iff_getElem?.1 (ordL_mem (List.mem_of_getElem? q1))
        have hv := (HT.out.below h1.old).same_val ht' q3 hj' q2
        have := hY (i, f, o) W1 ⟨e2, q1, h1⟩ hk1
        rw [argV_of q1, q2, hv] at this
        exact this)
      W h0 hk
    rw [HKL.out] at hmain
    exact hmain
  case stop => exact fun c W hx => hx.elim
  case done =>
    rintro W ⟨f, o, hx⟩ hd
    rw [hsz] at hd
    have HD := Lib.hid hd
    have HX := Lib.hid hx
    have gb := (cell_of_box hx.box.1).1
    rw [vicAt_all] at gb
    clear hx hd
    go_wp2_with fail
    refine ⟨by simp, .inl ⟨_, _, rfl, run_takeDeferred (by rw [hsz]; exact HD.out), ?_⟩⟩
    rw [hsz]
    have hk : ∀ q, q ≠ w.heap.size + 4 → (World.putObj W (w.heap.size + 4) (.deferred none)).heap[q]? = W.heap[q]? := fun q hq => World.putObj_heap_other hq
    exact ⟨_, results_tmp rfl _ _ _, rfl, HX.out.old.os, HX.out.old.tape, HX.out.old.output, by simpa [World.putObj] using HX.out.old.size, fun q hq => (hk q (by omega)).trans (HX.out.old.block q hq)⟩
  case assign =>
    intro l x W hx
    obtain ⟨e, he, hs⟩ := hx
    obtain ⟨i, f, o⟩ := x
    dsimp only at he hs
    rw [argV_of he]
    gi_wp2
    refine ⟨⟨trivial, trivial⟩, hs, e, he, ?_⟩
    exact rfl
  case body =>
    intro l x a W hx
    obtain ⟨i, f, o⟩ := x
    obtain ⟨hs, e, he, rfl⟩ := hx
    have HS := Lib.hid hs; have HE := Lib.hid he
    clear hs he
    dsimp only at HS HE
    have hem := ordL_mem (List.mem_of_getElem? HE.out)
    have hok := (HT.out.below HS.out.old).ok e hem
    have hlt : e.eb < w.heap.size := HT.out.lt (.inr (.inr ⟨_, hem, .inl rfl⟩))
    obtain ⟨s0, hs0⟩ : ∃ s0, vicAt L i = s0 := ⟨_, rfl⟩
    have hsucc := vicAt_succ HE.out
    rw [hs0] at HS hsucc
    obtain ⟨ch, wn, hf⟩ := s0
    have q0 := (cell_of_box HS.out.box.1).1
    have q1 := (cell_of_box HS.out.box.2.1).1
    have q2 := (cell_of_box HS.out.box.2.2).1
    obtain ⟨k, v, eb, Hb, hc⟩ := e
    dsimp only at hlt hsucc q0 q1 q2
    clear hs0 hem
    have hch : (ch == 0) = decide (ch = 0) := by cases h9 : decide (ch = 0) <;> simp_all
    cases v with
    | inc held sent first last =>
      have hE : W.heap[eb]? = some (.cells #[.slice Hb held.length hc, .int .i64 sent, .int .i64 first, .int .i64 last] 135) := hok.1
      have c2 := (cell_of_block (k := 2) hE rfl).1
      have hta := ta_ii (.pointer (some ⟨eb, 0, none⟩))
      clear hok hch
      unfold vicAct En.val Ev.ty
      by_cases hc1 : hf = false ∨ first < wn
      · have hvs : vicStep (ch, wn, hf) (k, .inc held sent first last) = (k, first, true) := if_pos hc1
        rw [hvs] at hsucc
        have HSU := Lib.hid hsucc
        clear hsucc hvs
        cases hf with
        | false =>
          clear hc1
          gi_wp2_with fail
          refine wpIn_round_quiet (by kernel_rfl) (by kernel_rfl) (by kernel_rfl) ?_
          repeat (first | go_big_quiet_step (fail) | quiet_step (fail))
          refine wpQuiet_nil ?_
          intro _ hw'
          obtain ⟨nq, hw''⟩ := hw'
          subst hw''
          have HM := Lib.hid (HS.out.below (below_drewN (Below.refl _ _) nq))
          have HE2 := Lib.hid (bblock (below_drewN (Below.refl _ _) nq) hE)
          have HQ : Hid (∀ q, q = w.heap.size + 4 ∨ q = w.heap.size + 5 → (W.drewN nq).heap[q]? = W.heap[q]?) := Lib.hid (fun _ _ => rfl)
          clear q0 q1 q2 c2
          generalize W.drewN nq = W2 at *
          have c2 : W2.drew.cell? ⟨eb, 2, none⟩ = some (.int .i64 first) := (cell_of_block (k := 2) HE2.out rfl).1
          gi_wp2_with fail
          refine wpIn_round_held (S := (fun w' : World => w'.cell? ⟨eb, 2, none⟩ = some (.int .i64 first))) (by kernel_rfl) (by kernel_rfl) c2 ?_
          intro hS
          refine wpAnyH_take (i := 0) (v := ?vaa0) rfl (by kernel_rfl) (by kernel_rfl) (by kernel_rfl) (fun _ _ _ h => h) (Or.inl ⟨by rfl, ?hyaa0⟩) (by exact hS) ?reaa0
          case hyaa0 => (intro ww hSw; (try dsimp only at hSw); go_simp; first | done | with_reducible rfl)
          try simp only [Act.put]
          refine wpAnyH_take (i := 1) (v := ?vaa1) rfl (by kernel_rfl) (by kernel_rfl) (by kernel_rfl) (fun _ _ _ h => h) (Or.inl ⟨by rfl, ?hyaa1⟩) (by exact hS) ?reaa1
          case hyaa1 => (intro ww hSw; (try dsimp only at hSw); go_simp; first | done | with_reducible rfl)
          try simp only [Act.put]
          refine wpAnyH_take (i := 2) (v := ?vaa2) rfl (by kernel_rfl) (by kernel_rfl) (by kernel_rfl) (fun _ _ _ h => h) (Or.inl ⟨by rfl, ?hyaa2⟩) (by exact hS) ?reaa2
          case hyaa2 => (intro ww hSw; (try dsimp only at hSw); go_simp; first | done | with_reducible rfl)
          try simp only [Act.put]
          refine wpAnyH_take (i := 3) (v := ?vaa3) rfl (by kernel_rfl) (by kernel_rfl) (by kernel_rfl) (fun _ _ _ h => h) (Or.inl ⟨by rfl, ?hyaa3⟩) (by exact hS) ?reaa3
          case hyaa3 => (intro ww hSw; (try dsimp only at hSw); go_simp; first | done | with_reducible rfl)
          try simp only [Act.put]
          refine wpAnyH_take (i := 4) (v := ?vaa4) rfl (by kernel_rfl) (by kernel_rfl) (by kernel_rfl) (fun _ _ _ h => h) (Or.inl ⟨by rfl, ?hyaa4⟩) (by exact hS) ?reaa4
          case hyaa4 => (intro ww hSw; (try dsimp only at hSw); go_simp; first | done | with_reducible rfl)
          try simp only [Act.put]
          have f0 := (cell_of_box HM.out.box.1).1; have z0 := (cell_of_box HM.out.box.1).2
          refine wpAnyH_ready (rs := [5]) (by kernel_rfl) (by simp) ?_
          refine AllReadyH.cons rfl (fun K5 hK5 => ?_) AllReadyH.nil
          go_simp
          have HM3 := Lib.hid (HM.out.set0 k)
          have HE3 := Lib.hid (block_set_other (a := ⟨w.heap.size, 0, none⟩) (u := .int .i64 k) HE2.out (by show w.heap.size ≠ eb; omega))
          have HQ3 : Hid (∀ q, q = w.heap.size + 4 ∨ q = w.heap.size + 5 → (World.setCell W2 ⟨w.heap.size, 0, none⟩ (.int .i64 k)).heap[q]? = W.heap[q]?) := Lib.hid (fun q hq => (Below.heap_setCell _ _ _ _ (by show q ≠ w.heap.size; omega)).trans (HQ.out q hq))
          clear f0 z0
          generalize World.setCell W2 ⟨w.heap.size, 0, none⟩ (.int .i64 k) = W3 at *
          refine hK5.out _ _ (cell_of_block (k := 2) HE3.out rfl).1 (fun _ => ?_)
          have f0 := (cell_of_box HM3.out.box.2.1).1; have z0 := (cell_of_box HM3.out.box.2.1).2
          refine wpAnyH_ready (rs := [6]) (by kernel_rfl) (by simp) ?_
          refine AllReadyH.cons rfl (fun K6 hK6 => ?_) AllReadyH.nil
          go_simp
          have HM4 := Lib.hid (HM3.out.set1 first)
          have HE4 := Lib.hid (block_set_other (a := ⟨w.heap.size + 1, 0, none⟩) (u := .int .i64 first) HE3.out (by show w.heap.size + 1 ≠ eb; omega))
          have HQ4 : Hid (∀ q, q = w.heap.size + 4 ∨ q = w.heap.size + 5 → (World.setCell W3 ⟨w.heap.size + 1, 0, none⟩ (.int .i64 first)).heap[q]? = W.heap[q]?) := Lib.hid (fun q hq => (Below.heap_setCell _ _ _ _ (by show q ≠ w.heap.size + 1; omega)).trans (HQ3.out q hq))
          clear f0 z0
          generalize World.setCell W3 ⟨w.heap.size + 1, 0, none⟩ (.int .i64 first) = W4 at *
          refine hK6.out _ _ (cell_of_block (k := 2) HE4.out rfl).1 (fun _ => ?_)
          have f0 := (cell_of_box HM4.out.box.2.2).1; have z0 := (cell_of_box HM4.out.box.2.2).2
          refine wpAnyH_ready (rs := [7]) (by kernel_rfl) (by simp) ?_
          refine AllReadyH.cons rfl (fun K7 hK7 => ?_) AllReadyH.nil
          go_simp
          have HM5 := Lib.hid (HM4.out.set2 true)
          have HE5 := Lib.hid (block_set_other (a := ⟨w.heap.size + 2, 0, none⟩) (u := .bool true) HE4.out (by show w.heap.size + 2 ≠ eb; omega))
          have HQ5 : Hid (∀ q, q = w.heap.size + 4 ∨ q = w.heap.size + 5 → (World.setCell W4 ⟨w.heap.size + 2, 0, none⟩ (.bool true)).heap[q]? = W.heap[q]?) := Lib.hid (fun q hq => (Below.heap_setCell _ _ _ _ (by show q ≠ w.heap.size + 2; omega)).trans (HQ4.out q hq))
          clear f0 z0
          generalize World.setCell W4 ⟨w.heap.size + 2, 0, none⟩ (.bool true) = W5 at *
          refine hK7.out _ _ (cell_of_block (k := 2) HE5.out rfl).1 (fun _ => ?_)
          refine wpAnyH_done (by kernel_rfl) ?_ _
          gi_wp2
          have hend := HM5.out.drew
          rw [← HSU.out] at hend
          exact ⟨⟨HQ5.out _ (.inl (by omega)), HQ5.out _ (.inr (by omega))⟩, hend⟩
        | true =>
          have d1 : decide (first < wn) = true := by rcases hc1 with h1 | h1; · cases h1
                                                     · exact decide_eq_true h1
          clear hc1
          gi_wp2_with fail
          refine wpIn_round_quiet (by kernel_rfl) (by kernel_rfl) (by kernel_rfl) ?_
          repeat (first | go_big_quiet_step (fail) | quiet_step (fail))
          refine wpQuiet_nil ?_
          intro _ hw'
          obtain ⟨nq, hw''⟩ := hw'
          subst hw''
          have HM := Lib.hid (HS.out.below (below_drewN (Below.refl _ _) nq))
          have HE2 := Lib.hid (bblock (below_drewN (Below.refl _ _) nq) hE)
          have HQ : Hid (∀ q, q = w.heap.size + 4 ∨ q = w.heap.size + 5 → (W.drewN nq).heap[q]? = W.heap[q]?) := Lib.hid (fun _ _ => rfl)
          clear q0 q1 q2 c2
          generalize W.drewN nq = W2 at *
          have c2 : W2.drew.cell? ⟨eb, 2, none⟩ = some (.int .i64 first) := (cell_of_block (k := 2) HE2.out rfl).1
          gi_wp2_with fail
          refine wpIn_round_held (S := (fun w' : World => w'.cell? ⟨eb, 2, none⟩ = some (.int .i64 first))) (by kernel_rfl) (by kernel_rfl) c2 ?_
          intro hS
          refine wpAnyH_take (i := 0) (v := ?vab0) rfl (by kernel_rfl) (by kernel_rfl) (by kernel_rfl) (fun _ _ _ h => h) (Or.inl ⟨by rfl, ?hyab0⟩) (by exact hS) ?reab0
          case hyab0 => (intro ww hSw; (try dsimp only at hSw); go_simp; first | done | with_reducible rfl)
          try simp only [Act.put]
          refine wpAnyH_take (i := 1) (v := ?vab1) rfl (by kernel_rfl) (by kernel_rfl) (by kernel_rfl) (fun _ _ _ h => h) (Or.inl ⟨by rfl, ?hyab1⟩) (by exact hS) ?reab1
          case hyab1 => (intro ww hSw; (try dsimp only at hSw); go_simp; first | done | with_reducible rfl)
          try simp only [Act.put]
          refine wpAnyH_take (i := 2) (v := ?vab2) rfl (by kernel_rfl) (by kernel_rfl) (by kernel_rfl) (fun _ _ _ h => h) (Or.inl ⟨by rfl, ?hyab2⟩) (by exact hS) ?reab2
          case hyab2 => (intro ww hSw; (try dsimp only at hSw); go_simp; first | done | with_reducible rfl)
          try simp only [Act.put]
          refine wpAnyH_take (i := 3) (v := ?vab3) rfl (by kernel_rfl) (by kernel_rfl) (by kernel_rfl) (fun _ _ _ h => h) (Or.inl ⟨by rfl, ?hyab3⟩) (by exact hS) ?reab3
          case hyab3 => (intro ww hSw; (try dsimp only at hSw); go_simp; first | done | with_reducible rfl)
          try simp only [Act.put]
          refine wpAnyH_take (i := 4) (v := ?vab4) rfl (by kernel_rfl) (by kernel_rfl) (by kernel_rfl) (fun _ _ _ h => h) (Or.inl ⟨by rfl, ?hyab4⟩) (by exact hS) ?reab4
          case hyab4 => (intro ww hSw; (try dsimp only at hSw); go_simp; first | done | with_reducible rfl)
          try simp only [Act.put]
          have f0 := (cell_of_box HM.out.box.1).1; have z0 := (cell_of_box HM.out.box.1).2
          refine wpAnyH_ready (rs := [5]) (by kernel_rfl) (by simp) ?_
          refine AllReadyH.cons rfl (fun K5 hK5 => ?_) AllReadyH.nil
          go_simp
          have HM3 := Lib.hid (HM.out.set0 k)
          have HE3 := Lib.hid (block_set_other (a := ⟨w.heap.size, 0, none⟩) (u := .int .i64 k) HE2.out (by show w.heap.size ≠ eb; omega))
          have HQ3 : Hid (∀ q, q = w.heap.size + 4 ∨ q = w.heap.size + 5 → (World.setCell W2 ⟨w.heap.size, 0, none⟩ (.int .i64 k)).heap[q]? = W.heap[q]?) := Lib.hid (fun q hq => (Below.heap_setCell _ _ _ _ (by show q ≠ w.heap.size; omega)).trans (HQ.out q hq))
          clear f0 z0
          generalize World.setCell W2 ⟨w.heap.size, 0, none⟩ (.int .i64 k) = W3 at *
          refine hK5.out _ _ (cell_of_block (k := 2) HE3.out rfl).1 (fun _ => ?_)
          have f0 := (cell_of_box HM3.out.box.2.1).1; have z0 := (cell_of_box HM3.out.box.2.1).2
          refine wpAnyH_ready (rs := [6]) (by kernel_rfl) (by simp) ?_
          refine AllReadyH.cons rfl (fun K6 hK6 => ?_) AllReadyH.nil
          go_simp
          have HM4 := Lib.hid (HM3.out.set1 first)
          have HE4 := Lib.hid (block_set_other (a := ⟨w.heap.size + 1, 0, none⟩) (u := .int .i64 first) HE3.out (by show w.heap.size + 1 ≠ eb; omega))
          have HQ4 : Hid (∀ q, q = w.heap.size + 4 ∨ q = w.heap.size + 5 → (World.setCell W3 ⟨w.heap.size + 1, 0, none⟩ (.int .i64 first)).heap[q]? = W.heap[q]?) := Lib.hid (fun q hq => (Below.heap_setCell _ _ _ _ (by show q ≠ w.heap.size + 1; omega)).trans (HQ3.out q hq))
          clear f0 z0
          generalize World.setCell W3 ⟨w.heap.size + 1, 0, none⟩ (.int .i64 first) = W4 at *
          refine hK6.out _ _ (cell_of_block (k := 2) HE4.out rfl).1 (fun _ => ?_)
          have f0 := (cell_of_box HM4.out.box.2.2).1; have z0 := (cell_of_box HM4.out.box.2.2).2
          refine wpAnyH_ready (rs := [7]) (by kernel_rfl) (by simp) ?_
          refine AllReadyH.cons rfl (fun K7 hK7 => ?_) AllReadyH.nil
          go_simp
          have HM5 := Lib.hid (HM4.out.set2 true)
          have HE5 := Lib.hid (block_set_other (a := ⟨w.heap.size + 2, 0, none⟩) (u := .bool true) HE4.out (by show w.heap.size + 2 ≠ eb; omega))
          have HQ5 : Hid (∀ q, q = w.heap.size + 4 ∨ q = w.heap.size + 5 → (World.setCell W4 ⟨w.heap.size + 2, 0, none⟩ (.bool true)).heap[q]? = W.heap[q]?) := Lib.hid (fun q hq => (Below.heap_setCell _ _ _ _ (by show q ≠ w.heap.size + 2; omega)).trans (HQ4.out q hq))
          clear f0 z0
          generalize World.setCell W4 ⟨w.heap.size + 2, 0, none⟩ (.bool true) = W5 at *
          refine hK7.out _ _ (cell_of_block (k := 2) HE5.out rfl).1 (fun _ => ?_)
          refine wpAnyH_done (by kernel_rfl) ?_ _
          gi_wp2
          have hend := HM5.out.drew
          rw [← HSU.out] at hend
          exact ⟨⟨HQ5.out _ (.inl (by omega)), HQ5.out _ (.inr (by omega))⟩, hend⟩
      · have hvs : vicStep (ch, wn, hf) (k, .inc held sent first last) = (ch, wn, hf) := if_neg hc1
        rw [hvs] at hsucc
        have HSU := Lib.hid hsucc
        clear hsucc hvs
        obtain rfl : hf = true := by cases hf; (exact absurd (.inl rfl) hc1); rfl
        have d1 : decide (first < wn) = false := decide_eq_false (fun q => hc1 (.inr q))
        clear hc1
        gi_wp2_with fail
        refine wpIn_round_quiet (by kernel_rfl) (by kernel_rfl) (by kernel_rfl) ?_
        repeat (first | go_big_quiet_step (fail) | quiet_step (fail))
        refine wpQuiet_nil ?_
        intro _ hw'
        obtain ⟨nq, hw''⟩ := hw'
        subst hw''
        gi_wp2
        have hend := HS.out.below (below_drewN (Below.refl _ _) nq)
        rw [← HSU.out] at hend
        exact ⟨⟨rfl, rfl⟩, hend⟩
    | res mac since used =>
      have hE : W.heap[eb]? = some (.cells #[.int .i64 mac, .int .i64 since, .int .i64 used] 128) := hok.1
      have c2 := (cell_of_block (k := 2) hE rfl).1
      have hta := ta_ir (.pointer (some ⟨eb, 0, none⟩)); have htb := ta_rr (.pointer (some ⟨eb, 0, none⟩))
      clear hok
      unfold vicAct En.val Ev.ty
      by_cases hc1 : ch = 0 ∨ (hf = false ∧ used < wn)
      · have hvs : vicStep (ch, wn, hf) (k, .res mac since used) = (k, used, hf) := if_pos hc1
        rw [hvs] at hsucc
        have HSU := Lib.hid hsucc
        clear hsucc hvs
        by_cases h0 : ch = 0
        · rw [decide_eq_true h0] at hch
          have HC0 := Lib.hid h0
          clear hc1 h0
          gi_wp2_with fail
          refine wpIn_round_quiet (by kernel_rfl) (by kernel_rfl) (by kernel_rfl) ?_
          repeat (first | go_big_quiet_step (fail) | quiet_step (fail))
          refine wpQuiet_nil ?_
          intro _ hw'
          obtain ⟨nq, hw''⟩ := hw'
          subst hw''
          have HM := Lib.hid (HS.out.below (below_drewN (Below.refl _ _) nq))
          have HE2 := Lib.hid (bblock (below_drewN (Below.refl _ _) nq) hE)
          have HQ : Hid (∀ q, q = w.heap.size + 4 ∨ q = w.heap.size + 5 → (W.drewN nq).heap[q]? = W.heap[q]?) := Lib.hid (fun _ _ => rfl)
          clear q0 q1 q2 c2
          generalize W.drewN nq = W2 at *
          have c2 : W2.drew.cell? ⟨eb, 2, none⟩ = some (.int .i64 used) := (cell_of_block (k := 2) HE2.out rfl).1
          gi_wp2_with fail
          refine wpIn_round_held (S := (fun w' : World => w'.cell? ⟨eb, 2, none⟩ = some (.int .i64 used))) (by kernel_rfl) (by kernel_rfl) c2 ?_
          intro hS
          refine wpAnyH_take (i := 0) (v := ?vac0) rfl (by kernel_rfl) (by kernel_rfl) (by kernel_rfl) (fun _ _ _ h => h) (Or.inl ⟨by rfl, ?hyac0⟩) (by exact hS) ?reac0
          case hyac0 => (intro ww hSw; (try dsimp only at hSw); go_simp; first | done | with_reducible rfl)
          try simp only [Act.put]
          refine wpAnyH_take (i := 1) (v := ?vac1) rfl (by kernel_rfl) (by kernel_rfl) (by kernel_rfl) (fun _ _ _ h => h) (Or.inl ⟨by rfl, ?hyac1⟩) (by exact hS) ?reac1
          case hyac1 => (intro ww hSw; (try dsimp only at hSw); go_simp; first | done | with_reducible rfl)
          try simp only [Act.put]
          refine wpAnyH_take (i := 2) (v := ?vac2) rfl (by kernel_rfl) (by kernel_rfl) (by kernel_rfl) (fun _ _ _ h => h) (Or.inl ⟨by rfl, ?hyac2⟩) (by exact hS) ?reac2
          case hyac2 => (intro ww hSw; (try dsimp only at hSw); go_simp; first | done | with_reducible rfl)
          try simp only [Act.put]
          refine wpAnyH_take (i := 3) (v := ?vac3) rfl (by kernel_rfl) (by kernel_rfl) (by kernel_rfl) (fun _ _ _ h => h) (Or.inl ⟨by rfl, ?hyac3⟩) (by exact hS) ?reac3
          case hyac3 => (intro ww hSw; (try dsimp only at hSw); go_simp; first | done | with_reducible rfl)
          try simp only [Act.put]
          refine wpAnyH_take (i := 4) (v := ?vac4) rfl (by kernel_rfl) (by kernel_rfl) (by kernel_rfl) (fun _ _ _ h => h) (Or.inl ⟨by rfl, ?hyac4⟩) (by exact hS) ?reac4
          case hyac4 => (intro ww hSw; (try dsimp only at hSw); go_simp; first | done | with_reducible rfl)
          try simp only [Act.put]
          have f0 := (cell_of_box HM.out.box.1).1; have z0 := (cell_of_box HM.out.box.1).2
          refine wpAnyH_ready (rs := [5]) (by kernel_rfl) (by simp) ?_
          refine AllReadyH.cons rfl (fun K5 hK5 => ?_) AllReadyH.nil
          go_simp
          have HM3 := Lib.hid (HM.out.set0 k)
          have HE3 := Lib.hid (block_set_other (a := ⟨w.heap.size, 0, none⟩) (u := .int .i64 k) HE2.out (by show w.heap.size ≠ eb; omega))
          have HQ3 : Hid (∀ q, q = w.heap.size + 4 ∨ q = w.heap.size + 5 → (World.setCell W2 ⟨w.heap.size, 0, none⟩ (.int .i64 k)).heap[q]? = W.heap[q]?) := Lib.hid (fun q hq => (Below.heap_setCell _ _ _ _ (by show q ≠ w.heap.size; omega)).trans (HQ.out q hq))
          clear f0 z0
          generalize World.setCell W2 ⟨w.heap.size, 0, none⟩ (.int .i64 k) = W3 at *
          refine hK5.out _ _ (cell_of_block (k := 2) HE3.out rfl).1 (fun _ => ?_)
          have f0 := (cell_of_box HM3.out.box.2.1).1; have z0 := (cell_of_box HM3.out.box.2.1).2
          refine wpAnyH_ready (rs := [6]) (by kernel_rfl) (by simp) ?_
          refine AllReadyH.cons rfl (fun K6 hK6 => ?_) AllReadyH.nil
          go_simp
          have HM4 := Lib.hid (HM3.out.set1 used)
          have HE4 := Lib.hid (block_set_other (a := ⟨w.heap.size + 1, 0, none⟩) (u := .int .i64 used) HE3.out (by show w.heap.size + 1 ≠ eb; omega))
          have HQ4 : Hid (∀ q, q = w.heap.size + 4 ∨ q = w.heap.size + 5 → (World.setCell W3 ⟨w.heap.size + 1, 0, none⟩ (.int .i64 used)).heap[q]? = W.heap[q]?) := Lib.hid (fun q hq => (Below.heap_setCell _ _ _ _ (by show q ≠ w.heap.size + 1; omega)).trans (HQ3.out q hq))
          clear f0 z0
          generalize World.setCell W3 ⟨w.heap.size + 1, 0, none⟩ (.int .i64 used) = W4 at *
          refine hK6.out _ _ (cell_of_block (k := 2) HE4.out rfl).1 (fun _ => ?_)
          refine wpAnyH_done (by kernel_rfl) ?_ _
          gi_wp2
          have hend := HM4.out.drew
          rw [← HSU.out] at hend
          exact ⟨⟨HQ4.out _ (.inl (by omega)), HQ4.out _ (.inr (by omega))⟩, hend⟩
        · rw [decide_eq_false h0] at hch
          obtain ⟨rfl, h1⟩ : hf = false ∧ used < wn := hc1.resolve_left h0
          have d1 : decide (used < wn) = true := decide_eq_true h1
          clear hc1 h0 h1
          gi_wp2_with fail
          refine wpIn_round_quiet (by kernel_rfl) (by kernel_rfl) (by kernel_rfl) ?_
          repeat (first | go_big_quiet_step (fail) | quiet_step (fail))
          refine wpQuiet_nil ?_
          intro _ hw'
          obtain ⟨nq, hw''⟩ := hw'
          subst hw''
          have HM := Lib.hid (HS.out.below (below_drewN (Below.refl _ _) nq))
          have HE2 := Lib.hid (bblock (below_drewN (Below.refl _ _) nq) hE)
          have HQ : Hid (∀ q, q = w.heap.size + 4 ∨ q = w.heap.size + 5 → (W.drewN nq).heap[q]? = W.heap[q]?) := Lib.hid (fun _ _ => rfl)
          clear q0 q1 q2 c2
          generalize W.drewN nq = W2 at *
          have c2 : W2.drew.cell? ⟨eb, 2, none⟩ = some (.int .i64 used) := (cell_of_block (k := 2) HE2.out rfl).1
          gi_wp2_with fail
          refine wpIn_round_held (S := (fun w' : World => w'.cell? ⟨eb, 2, none⟩ = some (.int .i64 used))) (by kernel_rfl) (by kernel_rfl) c2 ?_
          intro hS
          refine wpAnyH_take (i := 0) (v := ?vad0) rfl (by kernel_rfl) (by kernel_rfl) (by kernel_rfl) (fun _ _ _ h => h) (Or.inl ⟨by rfl, ?hyad0⟩) (by exact hS) ?read0
          case hyad0 => (intro ww hSw; (try dsimp only at hSw); go_simp; first | done | with_reducible rfl)
          try simp only [Act.put]
          refine wpAnyH_take (i := 1) (v := ?vad1) rfl (by kernel_rfl) (by kernel_rfl) (by kernel_rfl) (fun _ _ _ h => h) (Or.inl ⟨by rfl, ?hyad1⟩) (by exact hS) ?read1
          case hyad1 => (intro ww hSw; (try dsimp only at hSw); go_simp; first | done | with_reducible rfl)
          try simp only [Act.put]
          refine wpAnyH_take (i := 2) (v := ?vad2) rfl (by kernel_rfl) (by kernel_rfl) (by kernel_rfl) (fun _ _ _ h => h) (Or.inl ⟨by rfl, ?hyad2⟩) (by exact hS) ?read2
          case hyad2 => (intro ww hSw; (try dsimp only at hSw); go_simp; first | done | with_reducible rfl)
          try simp only [Act.put]
          refine wpAnyH_take (i := 3) (v := ?vad3) rfl (by kernel_rfl) (by kernel_rfl) (by kernel_rfl) (fun _ _ _ h => h) (Or.inl ⟨by rfl, ?hyad3⟩) (by exact hS) ?read3
          case hyad3 => (intro ww hSw; (try dsimp only at hSw); go_simp; first | done | with_reducible rfl)
          try simp only [Act.put]
          refine wpAnyH_take (i := 4) (v := ?vad4) rfl (by kernel_rfl) (by kernel_rfl) (by kernel_rfl) (fun _ _ _ h => h) (Or.inl ⟨by rfl, ?hyad4⟩) (by exact hS) ?read4
          case hyad4 => (intro ww hSw; (try dsimp only at hSw); go_simp; first | done | with_reducible rfl)
          try simp only [Act.put]
          have f0 := (cell_of_box HM.out.box.1).1; have z0 := (cell_of_box HM.out.box.1).2
          refine wpAnyH_ready (rs := [5]) (by kernel_rfl) (by simp) ?_
          refine AllReadyH.cons rfl (fun K5 hK5 => ?_) AllReadyH.nil
          go_simp
          have HM3 := Lib.hid (HM.out.set0 k)
          have HE3 := Lib.hid (block_set_other (a := ⟨w.heap.size, 0, none⟩) (u := .int .i64 k) HE2.out (by show w.heap.size ≠ eb; omega))
          have HQ3 : Hid (∀ q, q = w.heap.size + 4 ∨ q = w.heap.size + 5 → (World.setCell W2 ⟨w.heap.size, 0, none⟩ (.int .i64 k)).heap[q]? = W.heap[q]?) := Lib.hid (fun q hq => (Below.heap_setCell _ _ _ _ (by show q ≠ w.heap.size; omega)).trans (HQ.out q hq))
          clear f0 z0
          generalize World.setCell W2 ⟨w.heap.size, 0, none⟩ (.int .i64 k) = W3 at *
          refine hK5.out _ _ (cell_of_block (k := 2) HE3.out rfl).1 (fun _ => ?_)
          have f0 := (cell_of_box HM3.out.box.2.1).1; have z0 := (cell_of_box HM3.out.box.2.1).2
          refine wpAnyH_ready (rs := [6]) (by kernel_rfl) (by simp) ?_
          refine AllReadyH.cons rfl (fun K6 hK6 => ?_) AllReadyH.nil
          go_simp
          have HM4 := Lib.hid (HM3.out.set1 used)
          have HE4 := Lib.hid (block_set_other (a := ⟨w.heap.size + 1, 0, none⟩) (u := .int .i64 used) HE3.out (by show w.heap.size + 1 ≠ eb; omega))
          have HQ4 : Hid (∀ q, q = w.heap.size + 4 ∨ q = w.heap.size + 5 → (World.setCell W3 ⟨w.heap.size + 1, 0, none⟩ (.int .i64 used)).heap[q]? = W.heap[q]?) := Lib.hid (fun q hq => (Below.heap_setCell _ _ _ _ (by show q ≠ w.heap.size + 1; omega)).trans (HQ3.out q hq))
          clear f0 z0
          generalize World.setCell W3 ⟨w.heap.size + 1, 0, none⟩ (.int .i64 used) = W4 at *
          refine hK6.out _ _ (cell_of_block (k := 2) HE4.out rfl).1 (fun _ => ?_)
          refine wpAnyH_done (by kernel_rfl) ?_ _
          gi_wp2
          have hend := HM4.out.drew
          rw [← HSU.out] at hend
          exact ⟨⟨HQ4.out _ (.inl (by omega)), HQ4.out _ (.inr (by omega))⟩, hend⟩
      · have hvs : vicStep (ch, wn, hf) (k, .res mac since used) = (ch, wn, hf) := if_neg hc1
        rw [hvs] at hsucc
        have HSU := Lib.hid hsucc
        clear hsucc hvs
        have h0 : ¬ ch = 0 := fun q => hc1 (.inl q)
        rw [decide_eq_false h0] at hch
        cases hf with
        | false =>
          have d1 : decide (used < wn) = false := decide_eq_false (fun q => hc1 (.inr ⟨rfl, q⟩))
          clear hc1 h0
          gi_wp2_with fail
          refine wpIn_round_quiet (by kernel_rfl) (by kernel_rfl) (by kernel_rfl) ?_
          repeat (first | go_big_quiet_step (fail) | quiet_step (fail))
          refine wpQuiet_nil ?_
          intro _ hw'
          obtain ⟨nq, hw''⟩ := hw'
          subst hw''
          gi_wp2
          have hend := HS.out.below (below_drewN (Below.refl _ _) nq)
          rw [← HSU.out] at hend
          exact ⟨⟨rfl, rfl⟩, hend⟩
        | true =>
          clear hc1 h0
          gi_wp2_with fail
          refine wpIn_round_quiet (by kernel_rfl) (by kernel_rfl) (by kernel_rfl) ?_
          repeat (first | go_big_quiet_step (fail) | quiet_step (fail))
          refine wpQuiet_nil ?_
          intro _ hw'
          obtain ⟨nq, hw''⟩ := hw'
          subst hw''
          gi_wp2
          have hend := HS.out.below (below_drewN (Below.refl _ _) nq)
          rw [← HSU.out] at hend
          exact ⟨⟨rfl, rfl⟩, hend⟩
end Go.Proofs.YtmgjcjacoegocaaDoor.Ar
