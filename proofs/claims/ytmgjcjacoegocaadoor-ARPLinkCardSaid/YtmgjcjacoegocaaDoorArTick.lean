/-
  The contract of (*Table).Tick.
-/
import Derived.Test.YtmgjcjacoegocaaDoorArVic
import Derived.Test.YtmgjcjacoegocaaDoorArTick0
import Derived.Deep.AppendLies
namespace Go.Proofs.YtmgjcjacoegocaaDoor.Ar
set_option maxRecDepth 100000
open Go.RowKit Go.Proofs.YtmgjcjacoegocaaDoor.Wire Go.Shelf
attribute [local go_sem] Oper.semAt_some

/-- an incomplete entry holds a packet -/
def Ev.some_ : Ev → Prop
  | .inc held _ _ _ => 1 ≤ held.length
  | .res .. => True
/-- the entries lie where those of L0 lie -/
def Sub (L' L0 : List En) : Prop := ∀ e' ∈ L', ∃ e ∈ L0, e'.k = e.k ∧ e'.eb = e.eb ∧ e'.Hb = e.Hb
theorem Sub.own {L' L0 : List En} (h : Sub L' L0) {T : Nat} {m : Option Nat} {q : Nat} (hq : TOwn T m L' q) : TOwn T m L0 q := by
  rcases hq with r | r | ⟨e', he, r⟩
  · exact .inl r
  · exact .inr (.inl r)
  · obtain ⟨e, h1, -, h2, h3⟩ := h e' he
    refine .inr (.inr ⟨e, h1, ?_⟩)
    unfold En.own at *
    rw [← h2, ← h3]; exact r
/-- the blocks of the walk: boxes of the table's pointer, of the time; the iterator's box -/
structure TBox (w : World) (T : Nat) (now : Int) (W : World) : Prop where
  bx : BoxT W w.heap.size T
  nb : W.heap[w.heap.size + 1]? = some (.cells #[.int .i64 now] 3)
  ix : BoxT W (w.heap.size + 4) T
/-- the two results so far -/
def TOut (w : World) (lm : List Am) (lh : List Hp) (f : Nat) (W : World) : Prop :=
  ∃ A c B d, W.heap[w.heap.size + 2]? = some (.cells #[.slice A lm.length c] 56) ∧ W.heap[w.heap.size + 3]? = some (.cells #[.slice B lh.length d] 57) ∧
    MRow W w.heap.size A c lm ∧ HRow W w.heap.size B d lh ∧ (∀ q, BK A q → w.heap.size + 7 ≤ q ∧ q ≠ f) ∧ (∀ q, BK B q → w.heap.size + 7 ≤ q ∧ q ≠ f) ∧ ∀ q, BK A q → ¬ BK B q
structure TM (w : World) (T : Nat) (m : Option Nat) (clk : Nat) (c : Tc) (now : Int) (L : List En) (f : Nat) (o : Obj) (A : AL) (lm : List Am) (lh : List Hp) (W : World) : Prop where
  tab : ∃ es L', Tab W T m es clk c L' ∧ absL L' = A ∧ Sub L' L
  chg : Chg (TOwn T m L) w W
  box : TBox w T now W
  out : TOut w lm lh f W
  fo : W.heap[f]? = some o
  big : w.heap.size + 7 ≤ W.heap.size
  fl : w.heap.size + 5 ≤ f ∧ f ≠ w.heap.size + 6
section
variable {w : World} {T : Nat} {m : Option Nat} {clk : Nat} {c : Tc} {now : Int} {L : List En} {f : Nat} {o : Obj} {A : AL} {lm : List Am} {lh : List Hp} {W W' : World}
theorem TOut.kept (h : TOut w lm lh f W) (hk : ∀ q, (q = w.heap.size + 2 ∨ q = w.heap.size + 3 ∨ w.heap.size + 7 ≤ q ∧ q ≠ f) → q < W.heap.size → W'.heap[q]? = W.heap[q]?) : TOut w lm lh f W' := by
  obtain ⟨A, c, B, d, h1, h2, h3, h4, h5, h6, h7⟩ := h
  exact ⟨A, c, B, d, (hk _ (.inl rfl) (blk_lt h1)).trans h1, (hk _ (.inr (.inl rfl)) (blk_lt h2)).trans h2, h3.kept (fun a e => hk _ (.inr (.inr (h5 _ ⟨a, e, rfl⟩))) (h3.bk e).2), h4.kept (fun a e => hk _ (.inr (.inr (h6 _ ⟨a, e, rfl⟩))) (h4.bk e).2), h5, h6, h7⟩
/-- all blocks stand but the loop's record and what is new -/
theorem TM.kept (h : TM w T m clk c now L f o A lm lh W) (hT0 : ∀ q, TOwn T m L q → q < w.heap.size) (hsz : W.heap.size ≤ W'.heap.size) (hos : W'.os = W.os ∧ W'.tape = W.tape ∧ W'.output = W.output) (hk : ∀ q, q ≠ w.heap.size + 6 → q < W.heap.size → W'.heap[q]? = W.heap[q]?) : TM w T m clk c now L f o A lm lh W' := by
  obtain ⟨es, L', ht, ha, hs⟩ := h.tab
  have hsw := h.big
  exact ⟨⟨es, L', ht.kept (fun q hq => hk q (by have := hT0 q (hs.own hq); omega) (ht.lt hq)), ha, hs⟩, ⟨hos.1.trans h.chg.os, hos.2.1.trans h.chg.tape, hos.2.2.trans h.chg.output, Nat.le_trans h.chg.size hsz, fun q hq hn => (hk q (by omega) (by omega)).trans (h.chg.block q hq hn)⟩,
    ⟨(hk _ (by omega) (blk_lt h.box.bx)).trans h.box.bx, (hk _ (by omega) (blk_lt h.box.nb)).trans h.box.nb, (hk _ (by omega) (blk_lt h.box.ix)).trans h.box.ix⟩,
    h.out.kept (fun q hq hl => hk q (by omega) hl), (hk _ h.fl.2 (blk_lt h.fo)).trans h.fo, by omega, h.fl⟩
theorem TM.below (h : TM w T m clk c now L f o A lm lh W) (hT0 : ∀ q, TOwn T m L q → q < w.heap.size) (hb : Below W.heap.size W W') : TM w T m clk c now L f o A lm lh W' := h.kept hT0 hb.size ⟨hb.os, hb.tape, hb.output⟩ (fun q _ hq => hb.block q hq)
theorem TM.put (h : TM w T m clk c now L f o A lm lh W) (hT0 : ∀ q, TOwn T m L q → q < w.heap.size) (x : Obj) : TM w T m clk c now L f o A lm lh (W.putObj (w.heap.size + 6) x) := h.kept hT0 (by simp [World.putObj]) ⟨rfl, rfl, rfl⟩ (fun q hne _ => World.putObj_heap_other hne)
/-- the table alone is turned -/
theorem TM.tabs (h : TM w T m clk c now L f o A lm lh W) (hT0 : ∀ q, TOwn T m L q → q < w.heap.size) {A' : AL} {es' : Array MapEntry} {L' : List En} (hc : Chg (TOwn T m L) W W') (ht : Tab W' T m es' clk c L') (ha : absL L' = A') (hs : Sub L' L) : TM w T m clk c now L f o A' lm lh W' := by
  have hb := h.big
  have hk : ∀ q, w.heap.size ≤ q → q < W.heap.size → W'.heap[q]? = W.heap[q]? := fun q h1 h2 => hc.block q h2 (fun r => by have := hT0 q r; omega)
  exact ⟨⟨es', L', ht, ha, hs⟩, h.chg.trans hc (fun q hq => .inl hq),
    ⟨(hk _ (by omega) (blk_lt h.box.bx)).trans h.box.bx, (hk _ (by omega) (blk_lt h.box.nb)).trans h.box.nb, (hk _ (by omega) (blk_lt h.box.ix)).trans h.box.ix⟩,
    h.out.kept (fun q hq hl => hk q (by omega) hl), (hk _ (by have := h.fl; omega) (blk_lt h.fo)).trans h.fo, Nat.le_trans hb hc.size, h.fl⟩
/-- a row is written (in place, or a new block), and its slice set anew in box b -/
theorem TM.rows {W1 : World} {row : Option Nat} {b : Nat} {v : Value} {lm' : List Am} {lh' : List Hp} (h : TM w T m clk c now L f o A lm lh W) (hT0 : ∀ q, TOwn T m L q → q < w.heap.size) (hb2 : b = w.heap.size + 2 ∨ b = w.heap.size + 3) (hg : W.grownBy W1 row) (hrow : ∀ q, row = some q → w.heap.size + 7 ≤ q ∧ q ≠ f) (ho : TOut w lm' lh' f (W1.setCell ⟨b, 0, none⟩ v)) :
    TM w T m clk c now L f o A lm' lh' (W1.setCell ⟨b, 0, none⟩ v) := by
  have hb := h.big
  have hflt := blk_lt h.fo
  have hfl := h.fl
  have hk : ∀ q, q < w.heap.size + 7 ∨ q = f → q < W.heap.size → q ≠ b → (W1.setCell ⟨b, 0, none⟩ v).heap[q]? = W.heap[q]? := fun q hq hl hne => by
    rw [Below.heap_setCell _ _ _ _ (by exact hne)]
    exact hg.block q hl (fun e => by have := hrow q e.symm; omega)
  obtain ⟨es, L', ht, ha, hs⟩ := h.tab
  refine ⟨⟨es, L', ht.kept (fun q hq => hk q (.inl (by have := hT0 q (hs.own hq); omega)) (ht.lt hq) (by have := hT0 q (hs.own hq); omega)), ha, hs⟩, ?_,
    ⟨(hk _ (.inl (by omega)) (blk_lt h.box.bx) (by omega)).trans h.box.bx, (hk _ (.inl (by omega)) (blk_lt h.box.nb) (by omega)).trans h.box.nb, (hk _ (.inl (by omega)) (blk_lt h.box.ix) (by omega)).trans h.box.ix⟩, ho, (hk _ (.inr rfl) hflt (by omega)).trans h.fo, ?_, hfl⟩
  · have h1 : Chg (TOwn T m L) w W1 := h.chg.trans (S' := fun q => row = some q) (Chg.grown hg (fun q e => e)) (fun q e => .inr (by have := hrow q e; omega))
    exact Chg.setCell h1 (.inr (by show w.heap.size ≤ b; omega)) _
  · have := hg.size
    show _ ≤ (World.setCell _ _ _).heap.size
    simp [World.setCell]; omega
/-- messages are appended to the first result -/
theorem TOut.appM {W1 : World} {g cap : Nat} {A : Option Addr} {c : Nat} {B : Option Addr} {d : Nat} {p : Am} (hlt : f < W.heap.size ∧ w.heap.size + 7 ≤ W.heap.size)
    (h1 : W.heap[w.heap.size + 2]? = some (.cells #[.slice A lm.length c] 56)) (h2 : W.heap[w.heap.size + 3]? = some (.cells #[.slice B lh.length d] 57))
    (h4 : HRow W w.heap.size B d lh) (h5 : ∀ q, BK A q → w.heap.size + 7 ≤ q ∧ q ≠ f) (h6 : ∀ q, BK B q → w.heap.size + 7 ≤ q ∧ q ≠ f) (h7 : ∀ q, BK A q → ¬ BK B q)
    (ho : W1.ownsRow w.heap.size 52 5 (.slice (some ⟨g, 0, none⟩) (lm.length + 1) cap) (lm.length + 1) (lm.flatMap Am.cells ++ p.cells)) (hg : W.grownBy W1 (Value.ownBlock (.slice A lm.length c))) (hw : Value.ownBlock (.slice A lm.length c) = some g ∨ W.heap.size ≤ g) :
    TOut w (lm ++ [p]) lh f (W1.setCell ⟨w.heap.size + 2, 0, none⟩ (.slice (some ⟨g, 0, none⟩) (lm.length + 1) cap)) := by
  have hgb : w.heap.size + 7 ≤ g ∧ g ≠ f ∧ ¬ BK B g := by
    rcases hw with q | q
    · exact ⟨(h5 g (ob_bk q)).1, (h5 g (ob_bk q)).2, h7 g (ob_bk q)⟩
    · exact ⟨by omega, by omega, fun r => by have := (h4.bk' r).2; omega⟩
  have hb1 : W1.heap[w.heap.size + 2]? = some (.cells #[.slice A lm.length c] 56) := (hg.block _ (blk_lt h1) (fun e => by have := h5 _ (ob_bk e.symm); omega)).trans h1
  have hb2 : W1.heap[w.heap.size + 3]? = some (.cells #[.slice B lh.length d] 57) := (hg.block _ (blk_lt h2) (fun e => by have := h5 _ (ob_bk e.symm); omega)).trans h2
  have hN : (lm ++ [p]).length = lm.length + 1 := by simp
  refine ⟨some ⟨g, 0, none⟩, cap, B, d, ?_, ?_, ?_, ?_, fun q hq => ?_, h6, fun q hq => ?_⟩
  · rw [hN, block_setCell (k := 0) hb1]; simp
  · rw [Below.heap_setCell _ _ _ _ (by show w.heap.size + 3 ≠ w.heap.size + 2; omega)]; exact hb2
  · exact (SRow.app (x := p) ho).kept (fun a e => by cases e; exact Below.heap_setCell _ _ _ _ (by show g ≠ w.heap.size + 2; omega))
  · exact h4.kept (fun a e => by
      have := h6 _ ⟨a, e, rfl⟩
      rw [Below.heap_setCell _ _ _ _ (by show a.block ≠ w.heap.size + 2; omega)]
      exact hg.block _ (h4.bk e).2 (fun r => h7 _ (ob_bk r.symm) ⟨a, e, rfl⟩))
  · obtain ⟨a, e, rfl⟩ := hq; cases e; exact ⟨hgb.1, hgb.2.1⟩
  · obtain ⟨a, e, rfl⟩ := hq; cases e; exact hgb.2.2
/-- packets are appended to the second result -/
theorem TOut.appH {W1 : World} {g cap : Nat} {A : Option Addr} {c : Nat} {B : Option Addr} {d : Nat} {l : List Hp} (hlt : f < W.heap.size ∧ w.heap.size + 7 ≤ W.heap.size)
    (h1 : W.heap[w.heap.size + 2]? = some (.cells #[.slice A lm.length c] 56)) (h2 : W.heap[w.heap.size + 3]? = some (.cells #[.slice B lh.length d] 57))
    (h3 : MRow W w.heap.size A c lm) (h5 : ∀ q, BK A q → w.heap.size + 7 ≤ q ∧ q ≠ f) (h6 : ∀ q, BK B q → w.heap.size + 7 ≤ q ∧ q ≠ f) (h7 : ∀ q, BK A q → ¬ BK B q)
    (ho : W1.ownsRow w.heap.size 62 3 (.slice (some ⟨g, 0, none⟩) (lh.length + l.length) cap) (lh.length + l.length) (lh.flatMap Hp.cells ++ l.flatMap Hp.cells)) (hg : W.grownBy W1 (Value.ownBlock (.slice B lh.length d))) (hw : Value.ownBlock (.slice B lh.length d) = some g ∨ W.heap.size ≤ g) :
    TOut w lm (lh ++ l) f (W1.setCell ⟨w.heap.size + 3, 0, none⟩ (.slice (some ⟨g, 0, none⟩) (lh.length + l.length) cap)) := by
  have hgb : w.heap.size + 7 ≤ g ∧ g ≠ f ∧ ¬ BK A g := by
    rcases hw with q | q
    · exact ⟨(h6 g (ob_bk q)).1, (h6 g (ob_bk q)).2, fun r => h7 g r (ob_bk q)⟩
    · exact ⟨by omega, by omega, fun r => by have := (h3.bk' r).2; omega⟩
  have hb1 : W1.heap[w.heap.size + 2]? = some (.cells #[.slice A lm.length c] 56) := (hg.block _ (blk_lt h1) (fun e => by have := h6 _ (ob_bk e.symm); omega)).trans h1
  have hb2 : W1.heap[w.heap.size + 3]? = some (.cells #[.slice B lh.length d] 57) := (hg.block _ (blk_lt h2) (fun e => by have := h6 _ (ob_bk e.symm); omega)).trans h2
  have hN : (lh ++ l).length = lh.length + l.length := by simp
  refine ⟨A, c, some ⟨g, 0, none⟩, cap, ?_, ?_, ?_, ?_, h5, fun q hq => ?_, fun q hq hq2 => ?_⟩
  · rw [Below.heap_setCell _ _ _ _ (by show w.heap.size + 2 ≠ w.heap.size + 3; omega)]; exact hb1
  · rw [hN, block_setCell (k := 0) hb2]; simp
  · exact h3.kept (fun a e => by
      have := h5 _ ⟨a, e, rfl⟩
      rw [Below.heap_setCell _ _ _ _ (by show a.block ≠ w.heap.size + 3; omega)]
      exact hg.block _ (h3.bk e).2 (fun r => h7 _ ⟨a, e, rfl⟩ (ob_bk r.symm)))
  · have e2 : (lh ++ l).flatMap Hp.cells = lh.flatMap Hp.cells ++ l.flatMap Hp.cells := by simp
    have h8 : HRow W1 w.heap.size (some ⟨g, 0, none⟩) cap (lh ++ l) := by unfold HRow SRow; rw [hN, e2]; exact ho
    exact h8.kept (fun a e => by cases e; exact Below.heap_setCell _ _ _ _ (by show g ≠ w.heap.size + 3; omega))
  · obtain ⟨a, e, rfl⟩ := hq; cases e; exact ⟨hgb.1, hgb.2.1⟩
  · obtain ⟨a, e, rfl⟩ := hq2; cases e; exact hgb.2.2 hq
end
/-- the state ahead of round i -/
abbrev TSt (w : World) (T : Nat) (m : Option Nat) (clk : Nat) (c : Tc) (now : Int) (L : List En) (f : Nat) (o : Obj) (i : Nat) (W : World) : Prop :=
  TM w T m clk c now L f o (tickP now ((sortK L).take i) (absL L)) (((absL (ordL L)).take i).flatMap (tickM c now)) (((absL (ordL L)).take i).flatMap (tickH now)) W
/-- a call of Tick: its results, and the table behind it -/
def TickP (T : Nat) (m : Option Nat) (L : List En) (w : World) (r : AL × List Am × List Hp) (c : Tc) (e : Ending) (w' : World) : Prop :=
  ∃ (B : Option Addr) (k : Nat) (D : Option Addr) (d : Nat) (es' : Array MapEntry) (clk' : Nat) (L' : List En), e = .returned (.tuple #[.slice B r.2.1.length k, .slice D r.2.2.length d]) ∧
    MRow w' w.heap.size B k r.2.1 ∧ HRow w' w.heap.size D d r.2.2 ∧ Tab w' T m es' clk' c L' ∧ absL L' = r.1 ∧ Chg (TOwn T m L) w w' ∧ (∀ q, TOwn T m L' q → (TOwn T m L q ∨ w.heap.size ≤ q) ∧ ¬ BK B q ∧ ¬ BK D q) ∧ ∀ q, BK B q → ¬ BK D q
/-- one round more -/
theorem round_next {now : Int} {c : Tc} {L : List En} (hn : (L.map (·.k)).Nodup) {i : Nat} {e : En} (he : (ordL L)[i]? = some e) {A : AL} (hA : A = (tickP now ((sortK L).take i) (absL L)).filterMap fun x => if x.1 = e.k then tick1 now x else some x) :
    A = tickP now ((sortK L).take (i + 1)) (absL L) ∧ ((absL (ordL L)).take (i + 1)).flatMap (tickM c now) = ((absL (ordL L)).take i).flatMap (tickM c now) ++ tickM c now (e.k, e.v) ∧ ((absL (ordL L)).take (i + 1)).flatMap (tickH now) = ((absL (ordL L)).take i).flatMap (tickH now) ++ tickH now (e.k, e.v) := by
  refine ⟨?_, ?_, ?_⟩
  · rw [sort_take he, tickP_snoc _ (sort_not hn he)]; exact hA
  · rw [ord_take he, List.flatMap_append]; simp
  · rw [ord_take he, List.flatMap_append]; simp
theorem outM_le (c : Tc) (now : Int) (x : Int × Ev) : (tickM c now x).length ≤ 1 := by
  obtain ⟨k, v⟩ := x
  unfold tickM
  cases v with
  | inc held sent first last => dsimp only; split <;> simp
  | res mac since used => simp
theorem flat_le {α β : Type} (g : α → List β) (n : Nat) : ∀ l : List α, (∀ x ∈ l, (g x).length ≤ n) → (l.flatMap g).length ≤ l.length * n
  | [], _ => by simp
  | x :: l, h => by
    have h1 := flat_le g n l (fun y hy => h y (List.mem_cons_of_mem _ hy))
    have h2 := h x (List.mem_cons_self ..)
    rw [List.flatMap_cons, List.length_append, List.length_cons, Nat.succ_mul]; omega
theorem key_uniq {L : List En} (hn : (L.map (·.k)).Nodup) {e e' : En} (h : e ∈ L) (h' : e' ∈ L) (hk : e.k = e'.k) : e = e' := by
  obtain ⟨i, hi⟩ := List.mem_iff_getElem?.1 h
  obtain ⟨j, hj⟩ := List.mem_iff_getElem?.1 h'
  have h1 := find_key hn hi
  have h2 := find_key hn hj
  rw [hk, h2] at h1
  cases h1; rfl
/-- the entry of round i, as the table has it then -/
theorem TSt.at_ {w : World} {T : Nat} {m : Option Nat} {clk : Nat} {c : Tc} {now : Int} {L : List En} {f : Nat} {o : Obj} {i : Nat} {W : World} (h : TSt w T m clk c now L f o i W) (hn : (L.map (·.k)).Nodup) {e : En} (he : (ordL L)[i]? = some e) :
    ∃ (es : Array MapEntry) (L' : List En) (j : Nat) (x : En), Tab W T m es clk c L' ∧ absL L' = tickP now ((sortK L).take i) (absL L) ∧ Sub L' L ∧ L'[j]? = some x ∧ x.k = e.k ∧ x.v = e.v ∧ x.eb = e.eb ∧ x.Hb = e.Hb := by
  obtain ⟨es, L', ht, ha, hs⟩ := h.tab
  have hl := look_tickP (now := now) (by rw [abs_keys]; exact hn) (ordL_look hn he) (sort_not hn he)
  rw [← ha] at hl
  unfold absL at hl
  obtain ⟨x, hx, hxe⟩ := List.mem_map.1 hl
  obtain ⟨j, hj⟩ := List.mem_iff_getElem?.1 hx
  simp only [Prod.mk.injEq] at hxe
  obtain ⟨y, hy, y1, y2, y3⟩ := hs x hx
  have hey := key_uniq hn (ordL_mem (List.mem_of_getElem? he)) hy (hxe.1.symm.trans y1)
  subst hey
  exact ⟨es, L', j, x, ht, ha, hs, hj, hxe.1, hxe.2, y2, y3⟩
theorem tick_end (now : Int) (L : List En) : tickP now (sortK L) (absL L) = (absL L).filterMap (tick1 now) := tickP_all (fun x hx => by
  rw [sortK_mem, ← abs_keys]; exact List.mem_map_of_mem hx)
theorem ord_all (L : List En) : (absL (ordL L)).take L.length = ordA (absL L) := by
  rw [← ordL_abs, List.take_of_length_le]
  unfold absL; rw [List.length_map, ordL_len]; exact Nat.le_refl _
theorem TM.fin {w : World} {T : Nat} {m : Option Nat} {clk : Nat} {c : Tc} {now : Int} {L : List En} {f : Nat} {o : Obj} {Ak : AL} {lm : List Am} {lh : List Hp} {W W' : World} (h : TM w T m clk c now L f o Ak lm lh W) (hT0 : ∀ q, TOwn T m L q → q < w.heap.size) {A B : Option Addr} {ca cb : Nat}
    (h3 : MRow W w.heap.size A ca lm) (h4 : HRow W w.heap.size B cb lh) (h5 : ∀ q, BK A q → w.heap.size + 7 ≤ q ∧ q ≠ f) (h6 : ∀ q, BK B q → w.heap.size + 7 ≤ q ∧ q ≠ f) (h7 : ∀ q, BK A q → ¬ BK B q)
    (hch : Chg (fun q => q = w.heap.size + 5) W W') : TickP T m L w (Ak, lm, lh) c (.returned (.tuple #[.slice A lm.length ca, .slice B lh.length cb])) W' := by
  obtain ⟨es, L', ht, ha, hs⟩ := h.tab
  refine ⟨A, ca, B, cb, es, clk, L', rfl, h3.kept (fun a e => hch.block _ (h3.bk e).2 (by have := h5 _ ⟨a, e, rfl⟩; omega)), h4.kept (fun a e => hch.block _ (h4.bk e).2 (by have := h6 _ ⟨a, e, rfl⟩; omega)),
    ht.chg hch (fun q hq e => by have := hT0 q (hs.own hq); omega), ha, h.chg.trans hch (fun q e => .inr (by omega)), fun q hq => ⟨.inl (hs.own hq), fun r => ?_, fun r => ?_⟩, h7⟩
  · have := hT0 q (hs.own hq); have := h5 q r; omega
  · have := hT0 q (hs.own hq); have := h6 q r; omega
/-- the frame of a round and the table: what an entry says is kept -/
theorem TSt.keep {w : World} {T : Nat} {m : Option Nat} {clk : Nat} {c : Tc} {now : Int} {L : List En} {f : Nat} {o : Obj} {i : Nat} {W W' : World} (h : TSt w T m clk c now L f o i W) (hT0 : ∀ q, TOwn T m L q → q < w.heap.size) (hn : (L.map (·.k)).Nodup) (hb : Below W.heap.size W W') {e : En} (he : (ordL L)[i]? = some e) (h1 : tick1 now (e.k, e.v) = some (e.k, e.v)) (h2 : tickM c now (e.k, e.v) = []) (h3 : tickH now (e.k, e.v) = []) : TSt w T m clk c now L f o (i + 1) W' := by
  obtain ⟨es, L', ht, ha, hs⟩ := h.tab
  have hl := look_tickP (now := now) (by rw [abs_keys]; exact hn) (ordL_look hn he) (sort_not hn he)
  have hnod : ((tickP now ((sortK L).take i) (absL L)).map (·.1)).Nodup := by rw [← ha, abs_keys]; exact ht.nod
  obtain ⟨r1, r2, r3⟩ := round_next (c := c) hn he (A := tickP now ((sortK L).take i) (absL L)) (one_keep hnod (look_of_mem hnod hl) h1).symm
  have hb2 := h.below hT0 hb
  unfold TSt at *
  rw [r2, r3, h2, h3, List.append_nil, List.append_nil, ← r1]
  exact hb2
/-- .. is set anew -/
theorem TM.next {w : World} {T : Nat} {m : Option Nat} {clk : Nat} {c : Tc} {now : Int} {L : List En} {f : Nat} {o : Obj} {i : Nat} {W : World} (hn : (L.map (·.k)).Nodup) {e : En} (he : (ordL L)[i]? = some e) {A : AL} {lm : List Am} {lh : List Hp} (h : TM w T m clk c now L f o A (((absL (ordL L)).take i).flatMap (tickM c now) ++ lm) (((absL (ordL L)).take i).flatMap (tickH now) ++ lh) W) (hA : A = (tickP now ((sortK L).take i) (absL L)).filterMap fun x => if x.1 = e.k then tick1 now x else some x) (h2 : tickM c now (e.k, e.v) = lm) (h3 : tickH now (e.k, e.v) = lh) : TSt w T m clk c now L f o (i + 1) W := by
  obtain ⟨r1, r2, r3⟩ := round_next (c := c) hn he hA
  unfold TSt
  rw [r2, r3, h2, h3, ← r1]
  exact h
/-- the entry of round i is struck out of the map -/
theorem TSt.strike {w : World} {T r : Nat} {clk : Nat} {c : Tc} {now : Int} {L : List En} {f : Nat} {o : Obj} {i : Nat} {W W' : World} (h : TSt w T (some r) clk c now L f o i W) (hT0 : ∀ q, TOwn T (some r) L q → q < w.heap.size) {e : En} {es : Array MapEntry} {L1 : List En} {j : Nat} {x : En} (ht : Tab W T (some r) es clk c L1) (ha : absL L1 = tickP now ((sortK L).take i) (absL L)) (hs : Sub L1 L) (hj : L1[j]? = some x) (hk : x.k = e.k) (hv : x.v = e.v) (h1 : tick1 now (e.k, e.v) = none)
    (hw : W' = { W with heap := W.heap.setIfInBounds r (.map (es.eraseIdxIfInBounds j) clk) }) :
    TM w T (some r) clk c now L f o ((tickP now ((sortK L).take i) (absL L)).filterMap fun x => if x.1 = e.k then tick1 now x else some x) (((absL (ordL L)).take i).flatMap (tickM c now)) (((absL (ordL L)).take i).flatMap (tickH now)) W' ∧ (∀ q, w.heap.size ≤ q → W'.heap[q]? = W.heap[q]?) := by
  subst hw
  have hr : r < w.heap.size := hT0 r (.inr (.inl rfl))
  have hkeep : ∀ q, w.heap.size ≤ q → (W.heap.setIfInBounds r (.map (es.eraseIdxIfInBounds j) clk))[q]? = W.heap[q]? := fun q hq => Array.getElem?_setIfInBounds_ne (by omega)
  refine ⟨?_, hkeep⟩
  have hnod : ((absL L1).map (·.1)).Nodup := by rw [abs_keys]; exact ht.nod
  have hja : (absL L1)[j]? = some (e.k, e.v) := by unfold absL; rw [List.getElem?_map, hj, ← hk, ← hv]; rfl
  have hfm := one_del hnod hja h1
  rw [← ha, hfm, ← abs_erase]
  refine h.tabs hT0 (L' := L1.eraseIdx j) (Chg.setObj (Chg.refl _ _) (.inl (.inr (.inl rfl))) _) (ht.del j) rfl (fun e' he' => hs e' ((List.eraseIdx_sublist _ _).subset he'))
theorem infoAmT : (Tryd.prog.info? 52).map (fun i => (i.zero, i.size, i.bytes)) = some (some (.agg #[.int .i64 0, .int .i64 0, .int .i64 0, .int .i64 0, .int .i64 0]), 5, 40) := infoAm
theorem cells_am (o f fm t tm : Int) : ([.int .i64 o, .int .i64 f, .int .i64 fm, .int .i64 t, .int .i64 tm] : List Value) = Am.cells ⟨o, f, fm, t, tm⟩ := rfl
/-- the entry of round i is asked for anew -/
theorem TSt.renew {w : World} {T : Nat} {m : Option Nat} {clk : Nat} {c : Tc} {now : Int} {L : List En} {f : Nat} {o : Obj} {i : Nat} {W : World} (h : TSt w T m clk c now L f o i W) (hT0 : ∀ q, TOwn T m L q → q < w.heap.size) {es : Array MapEntry} {L1 : List En} {j : Nat} {k : Int} {held : List ByteArray} {sent first last : Int} {eb : Nat} {Hb : Option Addr} {hc : Nat} (ht : Tab W T m es clk c L1) (ha : absL L1 = tickP now ((sortK L).take i) (absL L)) (hs : Sub L1 L) (hj : L1[j]? = some ⟨k, .inc held sent first last, eb, Hb, hc⟩) (hag : agedB now last 10 = true) (h3 : sent < 3) (hnow : In64 now) {W3 : World}
    (hW3 : W3 = World.setCell (World.setCell W ⟨eb, 1, none⟩ (.int .i64 (sent + 1))) ⟨eb, 3, none⟩ (.int .i64 now)) :
    TM w T m clk c now L f o ((tickP now ((sortK L).take i) (absL L)).filterMap fun x => if x.1 = k then tick1 now x else some x) (((absL (ordL L)).take i).flatMap (tickM c now)) (((absL (ordL L)).take i).flatMap (tickH now)) W3 ∧ (∀ q, w.heap.size ≤ q → W3.heap[q]? = W.heap[q]?) := by
  subst hW3
  have hblt : eb < w.heap.size := hT0 eb (hs.own (.inr (.inr ⟨_, List.mem_of_getElem? hj, .inl rfl⟩)))
  have hch : Chg (fun q => q = eb) W (World.setCell (World.setCell W ⟨eb, 1, none⟩ (.int .i64 (sent + 1))) ⟨eb, 3, none⟩ (.int .i64 now)) := Chg.setCell (p := ⟨eb, 3, none⟩) (Chg.setCell (p := ⟨eb, 1, none⟩) (Chg.refl (fun q => q = eb) W) (.inl rfl) _) (.inl rfl) _
  have hkeep : ∀ q, q ≠ eb → (World.setCell (World.setCell W ⟨eb, 1, none⟩ (.int .i64 (sent + 1))) ⟨eb, 3, none⟩ (.int .i64 now)).heap[q]? = W.heap[q]? := fun q hq => (Below.heap_setCell _ _ _ _ (by exact hq)).trans (Below.heap_setCell _ _ _ _ (by exact hq))
  refine ⟨?_, fun q hq => hkeep q (by omega)⟩
  have hmem := List.mem_of_getElem? hj
  obtain ⟨g1, g2, g3, g4, g5, g6, g7, g8⟩ : W.heap[eb]? = some (.cells #[.slice Hb held.length hc, .int .i64 sent, .int .i64 first, .int .i64 last] 135) ∧ TRow W 0 Hb hc held ∧ (∀ a, Hb = some a → a.block ≠ eb) ∧ held.length ≤ 4 ∧ (0 ≤ sent ∧ sent ≤ 3) ∧ In64 first ∧ In64 last ∧ (∀ s ∈ held, s.size ≤ 1024) := ht.ok _ hmem
  have hb9 := block_setCell (k := 3) (v := .int .i64 now) (block_setCell (k := 1) (v := .int .i64 (sent + 1)) g1)
  obtain ⟨t9, o9⟩ := ht.setE (S := fun q => q = eb) (W' := World.setCell (World.setCell W ⟨eb, 1, none⟩ (.int .i64 (sent + 1))) ⟨eb, 3, none⟩ (.int .i64 now)) hj (e' := ⟨k, .inc held (sent + 1) first now, eb, Hb, hc⟩) rfl rfl
    ⟨cells_eq hb9 (by simp), g2.kept (fun a e => hkeep _ (g3 a e)), g3, g4, by omega, g6, hnow, g8⟩ hch (fun q e => .inl e) (fun q hq => .inl hq)
  have hnod : ((absL L1).map (·.1)).Nodup := by rw [abs_keys]; exact ht.nod
  have h1 : tick1 now (k, .inc held sent first last) = some (k, .inc held (sent + 1) first now) := by unfold tick1; dsimp only; rw [if_pos hag, if_pos h3]
  have hl := look_at ht.nod hj
  rw [← ha, one_set hnod hl h1]
  refine h.tabs hT0 (hch.mono (fun q e => hs.own (.inr (.inr ⟨_, hmem, .inl e⟩)))) t9 (abs_set ht.nod hj rfl) (fun e' he' => ?_)
  rcases mem_set he' with rfl | ⟨j2, -, hj2⟩
  · have q := hs _ hmem
    exact q
  · exact hs _ (List.mem_of_getElem? hj2)
theorem take_ord_le {L : List En} (i : Nat) : ((absL (ordL L)).take i).length ≤ L.length := by
  rw [List.length_take]; unfold absL; rw [List.length_map, ordL_len]; exact Nat.min_le_right _ _
theorem outH_le (now : Int) (L : List En) (hok : ∀ e ∈ L, match e.v with | .inc held _ _ _ => held.length ≤ 4 | .res .. => True) (i : Nat) : ∀ x ∈ (absL (ordL L)).take i, (tickH now x).length ≤ 4 := by
  intro x hx
  have hx := List.mem_of_mem_take hx
  unfold absL at hx
  obtain ⟨e, he, rfl⟩ := List.mem_map.1 hx
  have := hok e (ordL_mem he)
  unfold tickH
  dsimp only
  cases hv : e.v with
  | inc held sent first last =>
    rw [hv] at this
    dsimp only at this ⊢
    split
    · rw [List.length_map]; exact this
    · simp
  | res mac since used => simp
theorem held_le {W : World} {T : Nat} {m : Option Nat} {es : Array MapEntry} {clk : Nat} {c : Tc} {L : List En} (h : Tab W T m es clk c L) : ∀ e ∈ L, match e.v with | .inc held _ _ _ => held.length ≤ 4 | .res .. => True := by
  intro e he
  have := h.ok e he
  obtain ⟨k, v, eb, Hb, hc⟩ := e
  cases v with
  | inc held sent first last => exact this.2.2.2.1
  | res mac since used => trivial
theorem hp_one (l : List Hp) : ∀ u ∈ l.flatMap Hp.cells, u.oneCell' = true := by
  intro u hu
  obtain ⟨p, -, hp⟩ := List.mem_flatMap.1 hu
  simp [Hp.cells] at hp
  rcases hp with rfl | rfl | rfl <;> rfl
def tickAct (w : World) (T : Nat) (now : Int) (e : En) : Act := { tmps := #[.pointer (some ⟨T, 0, none⟩), .int .i64 now, .pointer (some ⟨w.heap.size, 0, none⟩), .pointer (some ⟨w.heap.size + 1, 0, none⟩), .slice none 0 0, .slice none 0 0, .pointer (some ⟨w.heap.size + 2, 0, none⟩), .pointer (some ⟨w.heap.size + 3, 0, none⟩), .int .i64 e.k, e.val, undef, undef, .pointer (some ⟨T, 0, none⟩), .bool false, .pointer (some ⟨T, 0, none⟩), .func (Fn.func 88) #[] #[.pointer (some ⟨w.heap.size + 4, 0, none⟩)], .int .i64 e.k, e.val, undef, undef, undef, undef, undef, undef, undef, undef, undef, undef, undef, undef, undef, undef, undef, undef, undef, undef, undef, undef, undef, undef, undef, undef, undef, undef, undef, undef, undef, undef, undef, undef, undef, undef, undef, undef, undef, undef, undef, undef, undef, undef, undef, undef, undef, undef, undef, undef, undef, undef, undef, undef, undef, undef, undef, undef, undef, undef, undef, undef, undef], defers := [] }
set_option maxHeartbeats 8000000 in
theorem tick_any (T : Nat) (m : Option Nat) (es : Array MapEntry) (clk : Nat) (c : Tc) (L : List En) (now : Int) (w : World) (h : Tab w T m es clk c L) (hL : L.length ≤ 1000) (h64 : ∀ e ∈ L, In64 e.k) (hnow : In64 now) (hne : ∀ e ∈ L, e.v.some_) :
    Calls Tryd.prog 22 #[.pointer (some ⟨T, 0, none⟩), .int .i64 now] w (TickP T m L w (tickA c (absL L) now) c) := by
  have hT0 : ∀ q, TOwn T m L q → q < w.heap.size := fun q hq => h.lt hq
  have H0 := Lib.hid (block_alloc (block_alloc (block_alloc (block_alloc (alloc_new w (.cells #[.pointer (some ⟨T, 0, none⟩)] 43)) (.cells #[.int .i64 now] 3)) (.cells #[.slice none 0 0] 56)) (.cells #[.slice none 0 0] 57)) (.cells #[.pointer (some ⟨T, 0, none⟩)] 43))
  have H1 := Lib.hid (block_alloc (block_alloc (block_alloc (alloc_new' (w.alloc (.cells #[.pointer (some ⟨T, 0, none⟩)] 43)) (.cells #[.int .i64 now] 3) (w.heap.size + 1) (by simp)) (.cells #[.slice none 0 0] 56)) (.cells #[.slice none 0 0] 57)) (.cells #[.pointer (some ⟨T, 0, none⟩)] 43))
  have H2 := Lib.hid (block_alloc (block_alloc (alloc_new' ((w.alloc (.cells #[.pointer (some ⟨T, 0, none⟩)] 43)).alloc (.cells #[.int .i64 now] 3)) (.cells #[.slice none 0 0] 56) (w.heap.size + 2) (by simp)) (.cells #[.slice none 0 0] 57)) (.cells #[.pointer (some ⟨T, 0, none⟩)] 43))
  have H3 := Lib.hid (block_alloc (alloc_new' (((w.alloc (.cells #[.pointer (some ⟨T, 0, none⟩)] 43)).alloc (.cells #[.int .i64 now] 3)).alloc (.cells #[.slice none 0 0] 56)) (.cells #[.slice none 0 0] 57) (w.heap.size + 3) (by simp)) (.cells #[.pointer (some ⟨T, 0, none⟩)] 43))
  have H4 := Lib.hid (alloc_new' ((((w.alloc (.cells #[.pointer (some ⟨T, 0, none⟩)] 43)).alloc (.cells #[.int .i64 now] 3)).alloc (.cells #[.slice none 0 0] 56)).alloc (.cells #[.slice none 0 0] 57)) (.cells #[.pointer (some ⟨T, 0, none⟩)] 43) (w.heap.size + 4) (by simp))
  have HB := Lib.hid (below_alloc (o := .cells #[.pointer (some ⟨T, 0, none⟩)] 43) (below_alloc (o := .cells #[.slice none 0 0] 57) (below_alloc (o := .cells #[.slice none 0 0] 56) (below_alloc (o := .cells #[.int .i64 now] 3) (below_alloc (o := .cells #[.pointer (some ⟨T, 0, none⟩)] 43) (Below.refl w.heap.size w))))))
  have HSZ : Hid ((((((w.alloc (.cells #[.pointer (some ⟨T, 0, none⟩)] 43)).alloc (.cells #[.int .i64 now] 3)).alloc (.cells #[.slice none 0 0] 56)).alloc (.cells #[.slice none 0 0] 57)).alloc (.cells #[.pointer (some ⟨T, 0, none⟩)] 43)).heap.size = w.heap.size + 5) := Lib.hid (by simp)
  have HT := Lib.hid h; have HN := Lib.hid h.nod; clear h
  have HNOW := Lib.hid hnow; have HNE := Lib.hid hne; clear hnow hne
  have HKL : Hid ((sortK L).length = L.length) := Lib.hid (by unfold sortK; rw [List.length_mergeSort, List.length_map])
  refine (callsIn_wide (n := 9)).1 ?_
  refine callsIn_of_wp_marks Tryd.func22 rfl trivial ?_ rfl
  simp only [Tryd.ntmps22, List.size_toArray, List.length_cons, List.length_nil, Nat.reduceAdd, Nat.reduceSub, Array.replicate_succ, Array.replicate_zero, List.push_toArray, List.append_toArray, List.nil_append, List.cons_append]
  refine wpIn_wide.2 ?_
  go_wp2_with (go_at_call 56; refine (inOrder_any T _).mono ?_; rintro e w' ⟨rfl, rfl⟩)
  generalize (((((w.alloc (.cells #[.pointer (some ⟨T, 0, none⟩)] 43)).alloc (.cells #[.int .i64 now] 3)).alloc (.cells #[.slice none 0 0] 56)).alloc (.cells #[.slice none 0 0] 57)).alloc (.cells #[.pointer (some ⟨T, 0, none⟩)] 43)) = W0 at *
  have hsz := HSZ.out
  refine (wpIn_wide (n := 9)).1 ?_
  refine wpIn_rangeFunc_at (ι := Nat × Nat × Obj) (F := Fence.wide) rfl (by omega) (gf := 88) (lb := #[.pointer (some ⟨w.heap.size + 4, 0, none⟩)]) rfl trivial (enters_of Tryd.func88 (by kernel_rfl) rfl)
    (fun x => argV L x.1) (fun x => by unfold argV; split <;> rfl) (fun W => Below W0.heap.size W0 W ∧ w.heap.size + 7 ≤ W.heap.size)
    (fun x W => ∃ e, (ordL L)[x.1]? = some e ∧ TSt w T m clk c now L x.2.1 x.2.2 x.1 W) (fun x W => TSt w T m clk c now L x.2.1 x.2.2 (x.1 + 1) W) (fun _ _ => False)
    (fun W => ∃ f o, TSt w T m clk c now L f o L.length W)
    (fun o o' => ⟨((Below.refl _ _).alloc (Nat.le_refl _) o).alloc (by simp) o', by simp; omega⟩) (fun x W o hx => by rw [hsz]; exact hx.put hT0 o) (fun c W o hx => hx) (fun W o hx => by obtain ⟨f, o', hx⟩ := hx; rw [hsz]; exact ⟨f, o', hx.put hT0 o⟩)
    (fun l r W hl h0 hk hY => ?iter) (fun x a W => TSt w T m clk c now L x.2.1 x.2.2 x.1 W ∧ ∃ e, (ordL L)[x.1]? = some e ∧ a = tickAct w T now e) (fun x a W o hx => ?ja) ?assign ?body ?done ?stop
  case ja => rw [hsz]; exact ⟨hx.1.put hT0 o, hx.2⟩
  case iter =>
    have hbase : ∀ W1 f o, Below W0.heap.size W0 W1 → w.heap.size + 7 ≤ W1.heap.size → W1.heap[f]? = some o → (w.heap.size + 5 ≤ f ∧ f ≠ w.heap.size + 6) → TSt w T m clk c now L f o 0 W1 := fun W1 f o hb hz ho hf => by
      have hb0 : Below w.heap.size w W1 := below_call HB.out hb
      unfold TSt
      rw [List.take_zero, List.take_zero, tickP_nil]
      exact ⟨⟨es, L, HT.out.below hb0, rfl, fun e he => ⟨e, he, rfl, rfl, rfl⟩⟩, Chg.of_below hb0, ⟨bblock hb H0.out, bblock hb H1.out, bblock hb H4.out⟩, ⟨none, 0, none, 0, bblock hb H2.out, bblock hb H3.out, SRow.nil _ _ _ _ _, SRow.nil _ _ _ _ _, fun q r => absurd r (bk_none q), fun q r => absurd r (bk_none q), fun q r => absurd r (bk_none q)⟩, ho, hz, hf⟩
    have hmain := inOrder1_wide 8 (by omega) T (w.heap.size + 4) l r (sortK L) (by rw [HKL.out]; exact hL) (fun W => Below W0.heap.size W0 W ∧ w.heap.size + 7 ≤ W.heap.size) (fun f o i W => TSt w T m clk c now L f o i W) (fun _ _ => False)
      (fun W1 h1 => ⟨bblock h1.1 H4.out, m, es, clk, c, L, HT.out.below (below_call HB.out h1.1), h64, hL, rfl⟩)
      (fun W1 W2 f o h1 hb hf ho => hbase W2 f o (below_call h1.1 hb) (Nat.le_trans h1.2 hb.size) ho (by have := h1.2; omega))
      (fun W1 W2 h1 hb he => by
        have hlt : w.heap.size + 5 < W2.heap.size := by have := h1.2; have := hb.size; omega
        exact ⟨w.heap.size + 5, _, hbase W2 _ _ (below_call h1.1 hb) (Nat.le_trans h1.2 hb.size) (Array.getElem?_eq_getElem hlt) (by omega)⟩)
      (fun f o i k W1 h1 he => by
        obtain ⟨e, q1, q2⟩ := ordL_at he
        obtain ⟨es', L', j, x, ht, -, -, hj, hk1, -, -, -⟩ := h1.at_ HN.out q1
        exact ⟨h1.fo, h1.box.ix, m, es', clk, c, L', j, x, ht, hj, hk1.trans q2⟩)
      (fun f o i e W1 he h1 hk1 ht => by
        obtain ⟨m', es', clk', c', L', j', ht', hj'⟩ := ht
        obtain ⟨e2, q1, q2⟩ := ordL_at he
        obtain ⟨es3, L3, j3, x, ht3, -, -, hj3, hx1, hx2, hx3, -⟩ := h1.at_ HN.out q1
        have hv := ht3.same_val ht' hj3 hj' (hx1.trans q2)
        have hv2 : e2.val = x.val := by unfold En.val; rw [hx2, hx3]
        have := hY (i, f, o) W1 ⟨e2, q1, h1⟩ hk1
        rw [argV_of q1, q2, hv2, hv] at this
        exact this)
      W h0 hk
    rw [HKL.out] at hmain
    exact hmain
  case stop => exact fun c W hx => hx.elim
  case done =>
    rintro W ⟨f, o, hx⟩ hd
    rw [hsz] at hd
    have HD := Lib.hid hd
    have hall := ord_all L
    unfold TSt at hx
    rw [← HKL.out, List.take_length, tick_end, HKL.out, hall] at hx
    obtain ⟨l1, e1⟩ : ∃ l, (ordA (absL L)).flatMap (tickM c now) = l := ⟨_, rfl⟩
    obtain ⟨l2, e2⟩ : ∃ l, (ordA (absL L)).flatMap (tickH now) = l := ⟨_, rfl⟩
    rw [e1, e2] at hx
    have E1 := Lib.hid e1; have E2 := Lib.hid e2
    clear e1 e2
    have HX := Lib.hid hx
    obtain ⟨A, ca, B, cb, g1, g2, g3, g4, g5, g6, g7⟩ := hx.out
    have G3 := Lib.hid g3; have G4 := Lib.hid g4; have G5 := Lib.hid g5; have G6 := Lib.hid g6; have G7 := Lib.hid g7
    have b1 := (cell_of_box g1).1; have b2 := (cell_of_box g2).1
    clear hx hd g1 g2 g3 g4 g5 g6 g7 hall
    go_wp2_with fail
    simp only [Nat.add_assoc, Nat.reduceAdd]
    go_quiet (fail)
    go_wp2_with fail
    refine ⟨by simp, .inl ⟨_, _, rfl, run_takeDeferred (by rw [hsz]; exact HD.out), ?_⟩⟩
    rw [hsz]
    have hk : ∀ q, q ≠ w.heap.size + 5 → (World.putObj (W.drewN nq) (w.heap.size + 5) (.deferred none)).heap[q]? = W.heap[q]? := fun q hq => World.putObj_heap_other hq
    have hco : Chg (fun q => q = w.heap.size + 5) W (World.putObj (W.drewN nq) (w.heap.size + 5) (.deferred none)) := ⟨rfl, rfl, rfl, by simp [World.putObj], fun q _ hq => hk q hq⟩
    refine ⟨_, results_tmp2 rfl _ _ _, ?_⟩
    have hfin := HX.out.fin hT0 G3.out G4.out G5.out G6.out G7.out hco
    rw [← E1.out, ← E2.out] at hfin ⊢
    exact hfin
  case assign =>
    intro l x W hx
    obtain ⟨e, he, hs⟩ := hx
    obtain ⟨i, f, o⟩ := x
    dsimp only at he hs
    rw [argV_of he]
    gi_wp2
    refine ⟨⟨trivial, trivial⟩, hs, e, he, ?_⟩
    exact rfl
  case body =>
    intro l x a W hx
    obtain ⟨i, f, o⟩ := x
    obtain ⟨hs, e, he, rfl⟩ := hx
    dsimp only at hs he
    obtain ⟨es1, L1, j, x, ht, hA, hsub, hj, hx1, hx2, hx3, hx4⟩ := hs.at_ HN.out he
    have hem := ordL_mem (List.mem_of_getElem? he)
    obtain ⟨ke, ve, ebe, Hbe, hce⟩ := e
    obtain ⟨k, v, eb, Hb, hc⟩ := x
    dsimp only at hx1 hx2 hx3 hx4
    subst hx1; subst hx2; subst hx3; subst hx4
    have hnow := HNOW.out
    have hok := ht.ok _ (List.mem_of_getElem? hj)
    have hne := HNE.out _ hem
    have HS := Lib.hid hs; have HE := Lib.hid he; have HTD := Lib.hid ht; have HJ := Lib.hid hj; have HSB := Lib.hid hsub; have HA := Lib.hid hA
    have bx0 := (cell_of_box hs.box.bx).1; have bx1 := (cell_of_box hs.box.nb).1
    clear hs he ht hj hsub hA hem
    cases v with
    | res mac since used =>
      have hE : W.heap[eb]? = some (.cells #[.int .i64 mac, .int .i64 since, .int .i64 used] 128) := hok.1
      have hs64 : In64 since := hok.2.2.1
      have c1 := (cell_of_block (k := 1) hE rfl).1
      have hta := ta_ir (.pointer (some ⟨eb, 0, none⟩)); have htb := ta_rr (.pointer (some ⟨eb, 0, none⟩))
      obtain ⟨b, hb⟩ : ∃ b, agedB now since 600 = b := ⟨_, rfl⟩
      have HAG : Hid (∀ W, Calls Tryd.prog 57 #[.int .i64 now, .int .i64 since, .int .u64 600] W fun e w' => e = .returned (.bool b) ∧ w' = W) := Lib.hid (fun W => (aged_any now since 600 hnow hs64 W).mono (by rintro e w' ⟨rfl, rfl⟩; exact ⟨by rw [hb], rfl⟩))
      have HBB := Lib.hid hb
      clear hok hb hne
      unfold tickAct En.val Ev.ty
      gi_wp2_with fail
      refine wpIn_round_quiet (by kernel_rfl) (by kernel_rfl) (by kernel_rfl) ?_
      repeat (first | go_big_quiet_step (exact Calls.quiet_of_same (HAG.out _)) | quiet_step (exact Calls.quiet_of_same (HAG.out _)))
      refine wpQuiet_nil ?_
      intro _ hw'
      obtain ⟨nq, hw''⟩ := hw'
      subst hw''
      cases b with
      | false =>
        gi_wp2_with fail
        exact ⟨⟨rfl, rfl⟩, HS.out.keep hT0 HN.out (below_drewN (Below.refl _ _) nq) HE.out (by unfold tick1; dsimp only; rw [HBB.out]; rfl) rfl rfl⟩
      | true =>
        obtain ⟨r, rfl, -⟩ : ∃ r, m = some r ∧ True := by
          rcases HTD.out.map with ⟨-, q⟩ | ⟨r, q, -⟩
          · have := HJ.out; rw [q] at this; simp at this
          · exact ⟨r, q, trivial⟩
        have HS2 := Lib.hid (TM.below HS.out hT0 (below_drewN (Below.refl _ _) nq)); have HTD2 := Lib.hid (HTD.out.below (below_drewN (Below.refl _ _) nq))
        have HQ2 : Hid (∀ q : Nat, (W.drewN nq).heap[q]? = W.heap[q]?) := Lib.hid (fun _ => rfl)
        clear HS HTD bx0 bx1 c1
        generalize W.drewN nq = W2 at *
        have bx0 := (cell_of_box HS2.out.box.bx).1
        obtain ⟨-, -, t2, -, -⟩ := cellsT HTD2.out
        obtain ⟨w3, hw3⟩ : ∃ w3 : World, w3 = { W2 with heap := W2.heap.setIfInBounds r (.map (es1.eraseIdxIfInBounds j) clk) } := ⟨_, rfl⟩
        have hdel : ∀ ty, (Builtin.delete_ #[100, 3] ty #[.map (some r), .int .i64 k]).run Tryd.prog W2 = .ok (.tuple #[]) w3 := fun ty => by
          rw [hw3]
          rcases HTD2.out.map with ⟨q, -⟩ | ⟨r', q, hm, -⟩
          · cases q
          · cases q; exact run_del k ty hm (HTD2.out.ents (by simp)) HTD2.out.nod (keys_at HJ.out).1 (keys_at HJ.out).2
        have HW3 := Lib.hid hw3
        clear hw3
        gi_wp2_with fail
        obtain ⟨hm3, hk3⟩ := TSt.strike HS2.out hT0 (e := ⟨k, _, eb, Hb, hce⟩) HTD2.out HA.out HSB.out HJ.out rfl rfl (by unfold tick1; dsimp only; rw [HBB.out]; rfl) HW3.out
        exact ⟨⟨(hk3 _ (by omega)).trans (HQ2.out _), (hk3 _ (by omega)).trans (HQ2.out _)⟩, TM.next HN.out HE.out (lm := []) (lh := []) (by rw [List.append_nil, List.append_nil]; exact hm3) rfl rfl rfl⟩
    | inc held sent first last =>
      have hE : W.heap[eb]? = some (.cells #[.slice Hb held.length hc, .int .i64 sent, .int .i64 first, .int .i64 last] 135) := hok.1
      obtain ⟨hrow, hHb, hl4, hs03, hf64, hl64, hz⟩ := hok.2
      have hl64 : In64 last := hl64
      have hs0 : 0 ≤ sent ∧ sent ≤ 3 := hs03
      have HROW := Lib.hid hrow; have HLEN := Lib.hid hl4; have HHB := Lib.hid hHb; have HF64 := Lib.hid hf64; have HL64 := Lib.hid hl64; have HZZ := Lib.hid hz
      have hw1 : IntKind.i64.wrap (sent + 1) = sent + 1 := IntWalk.i64_in _ (by omega)
      have HNEH : Hid (1 ≤ held.length) := Lib.hid hne
      have c1 := (cell_of_block (k := 1) hE rfl).1
      have c3 := (cell_of_block (k := 3) hE rfl).1
      have hta := ta_ii (.pointer (some ⟨eb, 0, none⟩))
      obtain ⟨b, hb⟩ : ∃ b, agedB now last 10 = b := ⟨_, rfl⟩
      have HAG : Hid (∀ W, Calls Tryd.prog 57 #[.int .i64 now, .int .i64 last, .int .u64 10] W fun e w' => e = .returned (.bool b) ∧ w' = W) := Lib.hid (fun W => (aged_any now last 10 hnow hl64 W).mono (by rintro e w' ⟨rfl, rfl⟩; exact ⟨by rw [hb], rfl⟩))
      have HBB := Lib.hid hb
      have HEB := Lib.hid hE
      clear hok hb hne hrow hHb hl4 hs03 hf64 hl64 hz hE
      unfold tickAct En.val Ev.ty
      gi_wp2_with fail
      refine wpIn_round_quiet (by kernel_rfl) (by kernel_rfl) (by kernel_rfl) ?_
      repeat (first | go_big_quiet_step (exact Calls.quiet_of_same (HAG.out _)) | quiet_step (exact Calls.quiet_of_same (HAG.out _)))
      refine wpQuiet_nil ?_
      intro _ hw'
      obtain ⟨nq, hw''⟩ := hw'
      subst hw''
      cases b with
      | false =>
        gi_wp2_with fail
        exact ⟨⟨rfl, rfl⟩, HS.out.keep hT0 HN.out (below_drewN (Below.refl _ _) nq) HE.out (by unfold tick1; dsimp only; rw [HBB.out]; rfl) (by unfold tickM; dsimp only; rw [HBB.out]; rfl) (by unfold tickH; dsimp only; rw [HBB.out]; rfl)⟩
      | true =>
        by_cases h3 : sent < 3
        · have d1 : decide (sent < 3) = true := decide_eq_true h3
          have hE2 := (bblock (below_drewN (Below.refl _ _) nq) HEB.out : (W.drewN nq).heap[eb]? = _)
          have hblt : eb < w.heap.size := hT0 eb (HSB.out.own (.inr (.inr ⟨_, List.mem_of_getElem? HJ.out, .inl rfl⟩)))
          have HS2 := Lib.hid (TM.below HS.out hT0 (below_drewN (Below.refl _ _) nq)); have HTD2 := Lib.hid (HTD.out.below (below_drewN (Below.refl _ _) nq))
          have HQ2 : Hid (∀ q : Nat, (W.drewN nq).heap[q]? = W.heap[q]?) := Lib.hid (fun _ => rfl)
          have HR2 := Lib.hid (HROW.out.below (below_drewN (Below.refl _ _) nq))
          have HE2 := Lib.hid hE2
          clear HS HTD bx0 bx1 c1 c3 hE2 HEB HROW
          generalize W.drewN nq = W2 at *
          have bx0 := (cell_of_box HS2.out.box.bx).1
          have bx1 := (cell_of_box HS2.out.box.nb).1
          obtain ⟨⟨-, c1, -, c3⟩, -, z1, -, z3⟩ := cells4 HE2.out
          gi_wp2_with fail
          obtain ⟨hm3, hk3⟩ := TSt.renew HS2.out hT0 HTD2.out HA.out HSB.out HJ.out HBB.out h3 HNOW.out rfl
          clear bx0 bx1 c1 c3 z1 z3
          have HQ3 : Hid (∀ q, w.heap.size ≤ q → (World.setCell (World.setCell W2 ⟨eb, 1, none⟩ (.int .i64 (sent + 1))) ⟨eb, 3, none⟩ (.int .i64 now)).heap[q]? = W.heap[q]?) := Lib.hid (fun q hq => (hk3 q hq).trans (HQ2.out q))
          have hle := Nat.le_trans (flat_le (tickM c now) 1 _ (fun x _ => outM_le c now x)) (by rw [Nat.mul_one]; exact take_ord_le (L := L) i)
          obtain ⟨lm, hlm⟩ : ∃ lm, ((absL (ordL L)).take i).flatMap (tickM c now) = lm := ⟨_, rfl⟩
          obtain ⟨lh, hlh⟩ : ∃ lh, ((absL (ordL L)).take i).flatMap (tickH now) = lh := ⟨_, rfl⟩
          rw [hlm] at hm3 hle
          rw [hlh] at hm3
          have HLM := Lib.hid hlm; have HLH := Lib.hid hlh
          have HM3 := Lib.hid hm3
          clear hlm hlh hm3 hk3 HQ2 HS2 HTD2
          generalize World.setCell (World.setCell W2 ⟨eb, 1, none⟩ (.int .i64 (sent + 1))) ⟨eb, 3, none⟩ (.int .i64 now) = W3 at *
          obtain ⟨es3, L3, ht3, -, -⟩ := HM3.out.tab
          have HT3 := Lib.hid ht3
          clear ht3
          obtain ⟨Aa, ca, Ba, cb, g1, g2, g3, g4, g5, g6, g7⟩ := HM3.out.out
          have G1 := Lib.hid g1; have G2 := Lib.hid g2; have G3 := Lib.hid g3; have G4 := Lib.hid g4; have G5 := Lib.hid g5; have G6 := Lib.hid g6; have G7 := Lib.hid g7
          clear g1 g2 g3 g4 g5 g6 g7
          have bx0 := (cell_of_box HM3.out.box.bx).1
          have gb := (cell_of_box G1.out).1
          refine wpIn_round_held (S := (fun w' : World => w'.cell? ⟨w.heap.size, 0, none⟩ = some (.pointer (some ⟨T, 0, none⟩)))) (by kernel_rfl) (by kernel_rfl) bx0 ?_
          intro hS
          have hbig3 := HM3.out.big
          have hfo3 := blk_lt HM3.out.fo
          have hfl3 := HM3.out.fl
          obtain ⟨i0, hi, hz0, hz1, hz2⟩ := info_parts infoAm
          refine wpAnyH_take (i := 1) (v := ?va1) rfl (by kernel_rfl) (by kernel_rfl) (by kernel_rfl) (fun _ _ _ h => h) (Or.inl ⟨by rfl, ?hya1⟩) (by exact hS) ?rea1
          case hya1 => (intro ww hSw; (try dsimp only at hSw); go_simp; first | done | with_reducible rfl)
          try simp only [Act.put]
          refine wpAnyH_take (i := 2) (v := ?va2) rfl (by kernel_rfl) (by kernel_rfl) (by kernel_rfl) (fun _ _ _ h => h) (Or.inl ⟨by rfl, ?hya2⟩) (by exact hS) ?rea2
          case hya2 => (intro ww hSw; (try dsimp only at hSw); go_simp; first | done | with_reducible rfl)
          try simp only [Act.put]
          refine wpAnyH_ready (rs := [0, 3]) (by kernel_rfl) (by simp) ?_
          refine AllReadyH.cons rfl (fun KA hKA => ?_) (AllReadyH.cons rfl (fun KB hKB => ?_) (AllReadyH.nil))
          · go_simp
            refine hKA.out _ _ bx0 (fun _ => ?_)
            refine wpAnyH_ready (rs := [3]) (by kernel_rfl) (by simp) ?_
            refine AllReadyH.cons rfl (fun KC hKC => ?_) (AllReadyH.nil)
            go_simp
            go_at_call 58
            refine (request_any T m es3 clk c L3 k _ HT3.out.drew).mono ?_
            rintro e9 w5 ⟨rfl, hb5⟩
            have HB5 := Lib.hid (show Below W3.heap.size W3 w5 from ⟨hb5.os, hb5.tape, hb5.output, hb5.size, hb5.block⟩)
            clear hb5
            have bx5 := bcell HB5.out bx0
            have gb5 := bcell HB5.out gb
            go_simp
            refine hKC.out _ _ bx5 (fun _ => ?_)
            refine wpAnyH_ready (rs := [4]) (by kernel_rfl) (by simp) ?_
            refine AllReadyH.cons rfl (fun KD hKD => ?_) (AllReadyH.nil)
            go_simp
            have HB6 := Lib.hid (below_alloc (o := .cells #[.int .i64 1, .int .i64 c.own, .int .i64 c.mac, .int .i64 k, .int .i64 0] 52) HB5.out)
            have bx6 := bcell HB6.out bx0
            have gb6 := bcell HB6.out gb
            refine hKD.out _ _ bx6 (fun _ => ?_)
            refine wpAnyH_ready (rs := [5]) (by kernel_rfl) (by simp) ?_
            refine AllReadyH.cons rfl (fun KE hKE => ?_) (AllReadyH.nil)
            refine step_append_lies _ (by rfl) _ _ _ (by rfl) w.heap.size 52 i0 (.agg #[.int .i64 0, .int .i64 0, .int .i64 0, .int .i64 0, .int .i64 0]) 5 40 Tryd.underlying56 hi hz0 hz1 hz2 rfl (by decide) (.slice Aa lm.length ca) lm.length _ (by rfl) (G3.out.below HB6.out) ⟨w5.heap.size, 0, none⟩ 1 1 [.int .i64 1, .int .i64 c.own, .int .i64 c.mac, .int .i64 k, .int .i64 0] (by rfl) rfl (World.news_of_block (heap_alloc_new w5 _)) (by simp [Value.oneCell']) (by omega) (by unfold maxLen; omega) (by omega) (by have := HB5.out.size; simp; omega) (w5.heap.size + 1) (by simp) ?_
            intro g cap x7 hown7 hg7 hat7 hlt7
            have HW7 := Lib.hid hown7; have HG7 := Lib.hid hg7; have HA7 := Lib.hid hat7
            have gb7 : Hid (x7.heap[w.heap.size + 2]? = some (.cells #[.slice Aa lm.length ca] 56)) := Lib.hid ((hg7.block _ (by have := HB6.out.size; omega) (fun e => by have := G5.out _ (ob_bk e.symm); omega)).trans (bblock HB6.out G1.out))
            have bx7 : Hid (x7.heap[w.heap.size]? = some (.cells #[.pointer (some ⟨T, 0, none⟩)] 43)) := Lib.hid ((hg7.block _ (by have := HB6.out.size; omega) (fun e => by have := G5.out _ (ob_bk e.symm); omega)).trans (bblock HB6.out HM3.out.box.bx))
            clear hown7 hg7 hat7
            refine hKE.out _ _ (cell_of_box bx7.out).1 (fun _ => ?_)
            refine wpAnyH_ready (rs := [6]) (by kernel_rfl) (by simp) ?_
            refine AllReadyH.cons rfl (fun KF hKF => ?_) (AllReadyH.nil)
            have q7 := (cell_of_box gb7.out).1; have z7 := (cell_of_box gb7.out).2
            go_simp
            have HB6S := HB6.out.size
            have hTO := TOut.appM (W := (w5.alloc (.cells #[.int .i64 1, .int .i64 c.own, .int .i64 c.mac, .int .i64 k, .int .i64 0] 52))) (w := w) (f := f) (lm := lm) (lh := lh) (p := req c k) ⟨by omega, by omega⟩ (bblock HB6.out G1.out) (bblock HB6.out G2.out) (G4.out.below HB6.out) G5.out G6.out G7.out HW7.out HG7.out (HA7.out.imp id (fun q => by simp; omega))
            have hTM := (HM3.out.below hT0 HB6.out).rows hT0 (.inl rfl) HG7.out (fun q e => G5.out q (ob_bk e)) hTO
            have HTM := Lib.hid hTM
            have HEQ : Hid (∀ q, q = w.heap.size + 5 ∨ q = w.heap.size + 6 → (World.setCell x7 ⟨w.heap.size + 2, 0, none⟩ (.slice (some ⟨g, 0, none⟩) (lm.length + 1) cap)).heap[q]? = W.heap[q]?) := Lib.hid fun q hq => by
              rw [Below.heap_setCell _ _ _ _ (by show q ≠ w.heap.size + 2; omega)]
              refine (HG7.out.block q (by omega) (fun r => by have := G5.out q (ob_bk r.symm); omega)).trans ?_
              exact (HB6.out.block q (by omega)).trans (HQ3.out q (by omega))
            have bx8 := block_set_other (a := ⟨w.heap.size + 2, 0, none⟩) (u := .slice (some ⟨g, 0, none⟩) (lm.length + 1) cap) bx7.out (by show w.heap.size + 2 ≠ w.heap.size; omega)
            clear q7 z7 hTO hTM
            generalize World.setCell x7 ⟨w.heap.size + 2, 0, none⟩ (.slice (some ⟨g, 0, none⟩) (lm.length + 1) cap) = x8 at *
            refine hKF.out _ _ (cell_of_box bx8).1 (fun _ => ?_)
            refine wpAnyH_done (by kernel_rfl) ?_ _
            gi_wp2
            have hfin := TM.next (e := ⟨k, .inc held sent first last, eb, Hb, hce⟩) HN.out HE.out (lm := [req c k]) (lh := []) (by rw [HLM.out, HLH.out, List.append_nil]; exact HTM.out) rfl (by unfold tickM; dsimp only; rw [if_pos ⟨HBB.out, h3⟩]) (by unfold tickH; dsimp only; rw [if_neg (fun q => q.2 h3)])
            exact ⟨⟨HEQ.out _ (.inl (by omega)), HEQ.out _ (.inr (by omega))⟩, hfin⟩
          · go_simp
            go_at_call 58
            refine (request_any T m es3 clk c L3 k _ HT3.out.drew).mono ?_
            rintro e9 w5 ⟨rfl, hb5⟩
            have HB5 := Lib.hid (show Below W3.heap.size W3 w5 from ⟨hb5.os, hb5.tape, hb5.output, hb5.size, hb5.block⟩)
            clear hb5
            have bx5 := bcell HB5.out bx0
            have gb5 := bcell HB5.out gb
            go_simp
            refine hKB.out _ _ bx5 (fun _ => ?_)
            refine wpAnyH_ready (rs := [0, 4]) (by kernel_rfl) (by simp) ?_
            refine AllReadyH.cons rfl (fun KC hKC => ?_) (AllReadyH.cons rfl (fun KD hKD => ?_) (AllReadyH.nil))
            · go_simp
              refine hKC.out _ _ bx5 (fun _ => ?_)
              refine wpAnyH_ready (rs := [4]) (by kernel_rfl) (by simp) ?_
              refine AllReadyH.cons rfl (fun KD hKD => ?_) (AllReadyH.nil)
              go_simp
              have HB6 := Lib.hid (below_alloc (o := .cells #[.int .i64 1, .int .i64 c.own, .int .i64 c.mac, .int .i64 k, .int .i64 0] 52) HB5.out)
              have bx6 := bcell HB6.out bx0
              have gb6 := bcell HB6.out gb
              refine hKD.out _ _ bx6 (fun _ => ?_)
              refine wpAnyH_ready (rs := [5]) (by kernel_rfl) (by simp) ?_
              refine AllReadyH.cons rfl (fun KE hKE => ?_) (AllReadyH.nil)
              refine step_append_lies _ (by rfl) _ _ _ (by rfl) w.heap.size 52 i0 (.agg #[.int .i64 0, .int .i64 0, .int .i64 0, .int .i64 0, .int .i64 0]) 5 40 Tryd.underlying56 hi hz0 hz1 hz2 rfl (by decide) (.slice Aa lm.length ca) lm.length _ (by rfl) (G3.out.below HB6.out) ⟨w5.heap.size, 0, none⟩ 1 1 [.int .i64 1, .int .i64 c.own, .int .i64 c.mac, .int .i64 k, .int .i64 0] (by rfl) rfl (World.news_of_block (heap_alloc_new w5 _)) (by simp [Value.oneCell']) (by omega) (by unfold maxLen; omega) (by omega) (by have := HB5.out.size; simp; omega) (w5.heap.size + 1) (by simp) ?_
              intro g cap x7 hown7 hg7 hat7 hlt7
              have HW7 := Lib.hid hown7; have HG7 := Lib.hid hg7; have HA7 := Lib.hid hat7
              have gb7 : Hid (x7.heap[w.heap.size + 2]? = some (.cells #[.slice Aa lm.length ca] 56)) := Lib.hid ((hg7.block _ (by have := HB6.out.size; omega) (fun e => by have := G5.out _ (ob_bk e.symm); omega)).trans (bblock HB6.out G1.out))
              have bx7 : Hid (x7.heap[w.heap.size]? = some (.cells #[.pointer (some ⟨T, 0, none⟩)] 43)) := Lib.hid ((hg7.block _ (by have := HB6.out.size; omega) (fun e => by have := G5.out _ (ob_bk e.symm); omega)).trans (bblock HB6.out HM3.out.box.bx))
              clear hown7 hg7 hat7
              refine hKE.out _ _ (cell_of_box bx7.out).1 (fun _ => ?_)
              refine wpAnyH_ready (rs := [6]) (by kernel_rfl) (by simp) ?_
              refine AllReadyH.cons rfl (fun KF hKF => ?_) (AllReadyH.nil)
              have q7 := (cell_of_box gb7.out).1; have z7 := (cell_of_box gb7.out).2
              go_simp
              have HB6S := HB6.out.size
              have hTO := TOut.appM (W := (w5.alloc (.cells #[.int .i64 1, .int .i64 c.own, .int .i64 c.mac, .int .i64 k, .int .i64 0] 52))) (w := w) (f := f) (lm := lm) (lh := lh) (p := req c k) ⟨by omega, by omega⟩ (bblock HB6.out G1.out) (bblock HB6.out G2.out) (G4.out.below HB6.out) G5.out G6.out G7.out HW7.out HG7.out (HA7.out.imp id (fun q => by simp; omega))
              have hTM := (HM3.out.below hT0 HB6.out).rows hT0 (.inl rfl) HG7.out (fun q e => G5.out q (ob_bk e)) hTO
              have HTM := Lib.hid hTM
              have HEQ : Hid (∀ q, q = w.heap.size + 5 ∨ q = w.heap.size + 6 → (World.setCell x7 ⟨w.heap.size + 2, 0, none⟩ (.slice (some ⟨g, 0, none⟩) (lm.length + 1) cap)).heap[q]? = W.heap[q]?) := Lib.hid fun q hq => by
                rw [Below.heap_setCell _ _ _ _ (by show q ≠ w.heap.size + 2; omega)]
                refine (HG7.out.block q (by omega) (fun r => by have := G5.out q (ob_bk r.symm); omega)).trans ?_
                exact (HB6.out.block q (by omega)).trans (HQ3.out q (by omega))
              have bx8 := block_set_other (a := ⟨w.heap.size + 2, 0, none⟩) (u := .slice (some ⟨g, 0, none⟩) (lm.length + 1) cap) bx7.out (by show w.heap.size + 2 ≠ w.heap.size; omega)
              clear q7 z7 hTO hTM
              generalize World.setCell x7 ⟨w.heap.size + 2, 0, none⟩ (.slice (some ⟨g, 0, none⟩) (lm.length + 1) cap) = x8 at *
              refine hKF.out _ _ (cell_of_box bx8).1 (fun _ => ?_)
              refine wpAnyH_done (by kernel_rfl) ?_ _
              gi_wp2
              have hfin := TM.next (e := ⟨k, .inc held sent first last, eb, Hb, hce⟩) HN.out HE.out (lm := [req c k]) (lh := []) (by rw [HLM.out, HLH.out, List.append_nil]; exact HTM.out) rfl (by unfold tickM; dsimp only; rw [if_pos ⟨HBB.out, h3⟩]) (by unfold tickH; dsimp only; rw [if_neg (fun q => q.2 h3)])
              exact ⟨⟨HEQ.out _ (.inl (by omega)), HEQ.out _ (.inr (by omega))⟩, hfin⟩
            · go_simp
              have HB6 := Lib.hid (below_alloc (o := .cells #[.int .i64 1, .int .i64 c.own, .int .i64 c.mac, .int .i64 k, .int .i64 0] 52) HB5.out)
              have bx6 := bcell HB6.out bx0
              have gb6 := bcell HB6.out gb
              refine hKD.out _ _ bx6 (fun _ => ?_)
              refine wpAnyH_ready (rs := [0]) (by kernel_rfl) (by simp) ?_
              refine AllReadyH.cons rfl (fun KC hKC => ?_) (AllReadyH.nil)
              go_simp
              refine hKC.out _ _ bx6 (fun _ => ?_)
              refine wpAnyH_ready (rs := [5]) (by kernel_rfl) (by simp) ?_
              refine AllReadyH.cons rfl (fun KE hKE => ?_) (AllReadyH.nil)
              refine step_append_lies _ (by rfl) _ _ _ (by rfl) w.heap.size 52 i0 (.agg #[.int .i64 0, .int .i64 0, .int .i64 0, .int .i64 0, .int .i64 0]) 5 40 Tryd.underlying56 hi hz0 hz1 hz2 rfl (by decide) (.slice Aa lm.length ca) lm.length _ (by rfl) (G3.out.below HB6.out) ⟨w5.heap.size, 0, none⟩ 1 1 [.int .i64 1, .int .i64 c.own, .int .i64 c.mac, .int .i64 k, .int .i64 0] (by rfl) rfl (World.news_of_block (heap_alloc_new w5 _)) (by simp [Value.oneCell']) (by omega) (by unfold maxLen; omega) (by omega) (by have := HB5.out.size; simp; omega) (w5.heap.size + 1) (by simp) ?_
              intro g cap x7 hown7 hg7 hat7 hlt7
              have HW7 := Lib.hid hown7; have HG7 := Lib.hid hg7; have HA7 := Lib.hid hat7
              have gb7 : Hid (x7.heap[w.heap.size + 2]? = some (.cells #[.slice Aa lm.length ca] 56)) := Lib.hid ((hg7.block _ (by have := HB6.out.size; omega) (fun e => by have := G5.out _ (ob_bk e.symm); omega)).trans (bblock HB6.out G1.out))
              have bx7 : Hid (x7.heap[w.heap.size]? = some (.cells #[.pointer (some ⟨T, 0, none⟩)] 43)) := Lib.hid ((hg7.block _ (by have := HB6.out.size; omega) (fun e => by have := G5.out _ (ob_bk e.symm); omega)).trans (bblock HB6.out HM3.out.box.bx))
              clear hown7 hg7 hat7
              refine hKE.out _ _ (cell_of_box bx7.out).1 (fun _ => ?_)
              refine wpAnyH_ready (rs := [6]) (by kernel_rfl) (by simp) ?_
              refine AllReadyH.cons rfl (fun KF hKF => ?_) (AllReadyH.nil)
              have q7 := (cell_of_box gb7.out).1; have z7 := (cell_of_box gb7.out).2
              go_simp
              have HB6S := HB6.out.size
              have hTO := TOut.appM (W := (w5.alloc (.cells #[.int .i64 1, .int .i64 c.own, .int .i64 c.mac, .int .i64 k, .int .i64 0] 52))) (w := w) (f := f) (lm := lm) (lh := lh) (p := req c k) ⟨by omega, by omega⟩ (bblock HB6.out G1.out) (bblock HB6.out G2.out) (G4.out.below HB6.out) G5.out G6.out G7.out HW7.out HG7.out (HA7.out.imp id (fun q => by simp; omega))
              have hTM := (HM3.out.below hT0 HB6.out).rows hT0 (.inl rfl) HG7.out (fun q e => G5.out q (ob_bk e)) hTO
              have HTM := Lib.hid hTM
              have HEQ : Hid (∀ q, q = w.heap.size + 5 ∨ q = w.heap.size + 6 → (World.setCell x7 ⟨w.heap.size + 2, 0, none⟩ (.slice (some ⟨g, 0, none⟩) (lm.length + 1) cap)).heap[q]? = W.heap[q]?) := Lib.hid fun q hq => by
                rw [Below.heap_setCell _ _ _ _ (by show q ≠ w.heap.size + 2; omega)]
                refine (HG7.out.block q (by omega) (fun r => by have := G5.out q (ob_bk r.symm); omega)).trans ?_
                exact (HB6.out.block q (by omega)).trans (HQ3.out q (by omega))
              have bx8 := block_set_other (a := ⟨w.heap.size + 2, 0, none⟩) (u := .slice (some ⟨g, 0, none⟩) (lm.length + 1) cap) bx7.out (by show w.heap.size + 2 ≠ w.heap.size; omega)
              clear q7 z7 hTO hTM
              generalize World.setCell x7 ⟨w.heap.size + 2, 0, none⟩ (.slice (some ⟨g, 0, none⟩) (lm.length + 1) cap) = x8 at *
              refine hKF.out _ _ (cell_of_box bx8).1 (fun _ => ?_)
              refine wpAnyH_done (by kernel_rfl) ?_ _
              gi_wp2
              have hfin := TM.next (e := ⟨k, .inc held sent first last, eb, Hb, hce⟩) HN.out HE.out (lm := [req c k]) (lh := []) (by rw [HLM.out, HLH.out, List.append_nil]; exact HTM.out) rfl (by unfold tickM; dsimp only; rw [if_pos ⟨HBB.out, h3⟩]) (by unfold tickH; dsimp only; rw [if_neg (fun q => q.2 h3)])
              exact ⟨⟨HEQ.out _ (.inl (by omega)), HEQ.out _ (.inr (by omega))⟩, hfin⟩
        · have d1 : decide (sent < 3) = false := decide_eq_false h3
          have h3n := Lib.hid h3
          have HE2 := Lib.hid (bblock (below_drewN (Below.refl _ _) nq) HEB.out)
          have HR2 := Lib.hid (HROW.out.below (below_drewN (Below.refl _ _) nq))
          clear HEB HROW
          have c1 := (cell_of_block (k := 1) HE2.out rfl).1
          obtain ⟨r, rfl, -⟩ : ∃ r, m = some r ∧ True := by
            rcases HTD.out.map with ⟨-, q⟩ | ⟨r, q, -⟩
            · have := HJ.out; rw [q] at this; simp at this
            · exact ⟨r, q, trivial⟩
          have HS2 := Lib.hid (TM.below HS.out hT0 (below_drewN (Below.refl _ _) nq)); have HTD2 := Lib.hid (HTD.out.below (below_drewN (Below.refl _ _) nq))
          have HQ2 : Hid (∀ q : Nat, (W.drewN nq).heap[q]? = W.heap[q]?) := Lib.hid (fun _ => rfl)
          clear HS HTD bx0 bx1 c3
          generalize W.drewN nq = W2 at *
          have bx0 := (cell_of_box HS2.out.box.bx).1
          obtain ⟨-, -, t2, -, -⟩ := cellsT HTD2.out
          obtain ⟨w3, hw3⟩ : ∃ w3 : World, w3 = { W2 with heap := W2.heap.setIfInBounds r (.map (es1.eraseIdxIfInBounds j) clk) } := ⟨_, rfl⟩
          have hdel : ∀ ty, (Builtin.delete_ #[100, 3] ty #[.map (some r), .int .i64 k]).run Tryd.prog W2 = .ok (.tuple #[]) w3 := fun ty => by
            rw [hw3]
            rcases HTD2.out.map with ⟨q, -⟩ | ⟨r', q, hm, -⟩
            · cases q
            · cases q; exact run_del k ty hm (HTD2.out.ents (by simp)) HTD2.out.nod (keys_at HJ.out).1 (keys_at HJ.out).2
          have HW3 := Lib.hid hw3
          clear hw3
          clear c1
          have c1 := (cell_of_block (k := 1) HE2.out rfl).1
          gi_wp2_with fail
          obtain ⟨hm3, hk3⟩ := TSt.strike HS2.out hT0 (e := ⟨k, _, eb, Hb, hce⟩) HTD2.out HA.out HSB.out HJ.out rfl rfl (by unfold tick1; dsimp only; rw [if_pos HBB.out, if_neg (by have := h3n.out; omega)]) HW3.out
          have hkr : ∀ q, q ≠ r → w3.heap[q]? = W2.heap[q]? := fun q hq => by
            rw [HW3.out]; exact Array.getElem?_setIfInBounds_ne (fun e => hq e.symm)
          have hown := HTD2.out.eo _ (List.mem_of_getElem? HJ.out)
          have HE3 := Lib.hid ((hkr eb (fun e => (hown eb (.inl rfl)).2 (by rw [e]))).trans HE2.out)
          have HR3 := Lib.hid (HR2.out.kept (W' := w3) (fun a e => hkr _ (fun q => (hown a.block (.inr ⟨a, e, rfl⟩)).2 (by rw [q]))))
          have HQ3 : Hid (∀ q, w.heap.size ≤ q → w3.heap[q]? = W.heap[q]?) := Lib.hid (fun q hq => (hk3 q hq).trans (HQ2.out q))
          have hle := Nat.le_trans (flat_le (tickH now) 4 _ (outH_le now L (held_le HT.out) i)) (Nat.mul_le_mul_right 4 (take_ord_le (L := L) i))
          obtain ⟨lm, hlm⟩ : ∃ lm, ((absL (ordL L)).take i).flatMap (tickM c now) = lm := ⟨_, rfl⟩
          obtain ⟨lh, hlh⟩ : ∃ lh, ((absL (ordL L)).take i).flatMap (tickH now) = lh := ⟨_, rfl⟩
          rw [hlm] at hm3
          rw [hlh] at hm3 hle
          have HLM := Lib.hid hlm; have HLH := Lib.hid hlh
          have HM3 := Lib.hid hm3
          have hNEH := HNEH.out; have hLEN := HLEN.out
          clear hlm hlh hm3 hk3 HQ2 HS2 HTD2 hkr hown hdel HW3 bx0 t2 c1 HE2 HR2
          obtain ⟨Aa, ca, Ba, cb, g1, g2, g3, g4, g5, g6, g7⟩ := HM3.out.out
          have G1 := Lib.hid g1; have G2 := Lib.hid g2; have G3 := Lib.hid g3; have G4 := Lib.hid g4; have G5 := Lib.hid g5; have G6 := Lib.hid g6; have G7 := Lib.hid g7
          clear g1 g2 g3 g4 g5 g6 g7
          have gb := (cell_of_box G2.out).1
          refine wpIn_round_held (S := (fun _ : World => True)) (by kernel_rfl) (by kernel_rfl) trivial ?_
          intro _
          have hbig3 := HM3.out.big
          have hfo3 := blk_lt HM3.out.fo
          have hfl3 := HM3.out.fl
          obtain ⟨i0, hi, hz0, hz1, hz2⟩ := info_parts infoHp
          refine wpAnyH_take (i := 1) (v := ?vax1) rfl (by kernel_rfl) (by kernel_rfl) (by kernel_rfl) (fun _ _ _ h => h) (Or.inl ⟨by rfl, ?hyax1⟩) trivial ?reax1
          case hyax1 => (intro ww hSw; (try dsimp only at hSw); go_simp; first | done | with_reducible rfl)
          try simp only [Act.put]
          refine wpAnyH_take (i := 2) (v := ?vax2) rfl (by kernel_rfl) (by kernel_rfl) (by kernel_rfl) (fun _ _ _ h => h) (Or.inl ⟨by rfl, ?hyax2⟩) trivial ?reax2
          case hyax2 => (intro ww hSw; (try dsimp only at hSw); go_simp; first | done | with_reducible rfl)
          try simp only [Act.put]
          refine wpAnyH_ready (rs := [0, 3]) (by kernel_rfl) (by simp) ?_
          refine AllReadyH.cons rfl (fun KA hKA => ?_) (AllReadyH.cons rfl (fun KB hKB => ?_) (AllReadyH.nil))
          · go_simp
            refine hKA.out _ _ trivial (fun _ => ?_)
            refine wpAnyH_ready (rs := [3]) (by kernel_rfl) (by simp) ?_
            refine AllReadyH.cons rfl (fun KC hKC => ?_) (AllReadyH.nil)
            go_simp
            go_at_call 55
            refine (release_any eb Hb hc held sent first last k 0 w3.drew HE3.out (HR3.out.kept (fun _ _ => rfl)) (by omega)).mono ?_
            rintro e9 w5 ⟨⟨Bx, cx, rfl, hrow5⟩, hb5⟩
            have HB5 := Lib.hid (show Below w3.heap.size w3 w5 from ⟨hb5.os, hb5.tape, hb5.output, hb5.size, hb5.block⟩)
            clear hb5
            obtain ⟨gx, rfl, -⟩ := hrow5.addr (by rw [List.length_map]; omega)
            have HR5 := Lib.hid hrow5
            clear hrow5
            have gb5 := bcell HB5.out gb
            go_simp
            refine hKC.out _ _ trivial (fun _ => ?_)
            refine wpAnyH_ready (rs := [4]) (by kernel_rfl) (by simp) ?_
            refine AllReadyH.cons rfl (fun KE hKE => ?_) (AllReadyH.nil)
            refine step_append_lies _ (by rfl) _ _ _ (by rfl) w.heap.size 62 i0 (.agg #[.int .i64 0, .int .i64 0, .string ⟨#[]⟩]) 3 32 Tryd.underlying57 hi hz0 hz1 hz2 rfl (by decide) (.slice Ba lh.length cb) lh.length _ (by rfl) (G4.out.below HB5.out) ⟨gx, 0, none⟩ held.length cx ((held.map fun s => (⟨k, 0, s⟩ : Hp)).flatMap Hp.cells) (by rfl) (by rw [encs_length 3 Hp.cells hpk, List.length_map]) (World.ownsRow.cells HR5.out rfl) (hp_one _) (by omega) (by unfold maxLen; omega) (by omega) (by have := HB5.out.size; omega) w5.heap.size rfl ?_
            intro g cap x7 hown7 hg7 hat7 hlt7
            have HW7 := Lib.hid hown7; have HG7 := Lib.hid hg7; have HA7 := Lib.hid hat7
            have gb7 : Hid (x7.heap[w.heap.size + 3]? = some (.cells #[.slice Ba lh.length cb] 57)) := Lib.hid ((hg7.block _ (by have := HB5.out.size; omega) (fun e => by have := G6.out _ (ob_bk e.symm); omega)).trans (bblock HB5.out G2.out))
            clear hown7 hg7 hat7
            refine hKE.out _ _ trivial (fun _ => ?_)
            refine wpAnyH_ready (rs := [5]) (by kernel_rfl) (by simp) ?_
            refine AllReadyH.cons rfl (fun KF hKF => ?_) (AllReadyH.nil)
            have q7 := (cell_of_box gb7.out).1; have z7 := (cell_of_box gb7.out).2
            go_simp
            have HB5S := HB5.out.size
            have hTO := TOut.appH (W := w5) (w := w) (f := f) (lm := lm) (lh := lh) (l := held.map fun s => (⟨k, 0, s⟩ : Hp)) ⟨by omega, by omega⟩ (bblock HB5.out G1.out) (bblock HB5.out G2.out) (G3.out.below HB5.out) G5.out G6.out G7.out (by rw [List.length_map]; exact HW7.out) HG7.out (HA7.out.imp id (fun q => by omega))
            rw [List.length_map] at hTO
            have hTM := (HM3.out.below hT0 HB5.out).rows hT0 (.inr rfl) HG7.out (fun q e => G6.out q (ob_bk e)) hTO
            have HTM := Lib.hid hTM
            have HEQ : Hid (∀ q, q = w.heap.size + 5 ∨ q = w.heap.size + 6 → (World.setCell x7 ⟨w.heap.size + 3, 0, none⟩ (.slice (some ⟨g, 0, none⟩) (lh.length + held.length) cap)).heap[q]? = W.heap[q]?) := Lib.hid fun q hq => by
              rw [Below.heap_setCell _ _ _ _ (by show q ≠ w.heap.size + 3; omega)]
              refine (HG7.out.block q (by omega) (fun r => by have := G6.out q (ob_bk r.symm); omega)).trans ?_
              exact (HB5.out.block q (by omega)).trans (HQ3.out q (by omega))
            clear q7 z7 hTO hTM
            generalize World.setCell x7 ⟨w.heap.size + 3, 0, none⟩ (.slice (some ⟨g, 0, none⟩) (lh.length + held.length) cap) = x8 at *
            refine hKF.out _ _ trivial (fun _ => ?_)
            refine wpAnyH_done (by kernel_rfl) ?_ _
            gi_wp2
            have hfin := TM.next (e := ⟨k, .inc held sent first last, eb, Hb, hce⟩) HN.out HE.out (lm := []) (lh := held.map fun s => (⟨k, 0, s⟩ : Hp)) (by rw [HLM.out, HLH.out, List.append_nil]; exact HTM.out) rfl (by unfold tickM; dsimp only; rw [if_neg (fun q => by have := h3n.out; have := q.2; omega)]) (by unfold tickH; dsimp only; rw [if_pos ⟨HBB.out, by have := h3n.out; omega⟩])
            exact ⟨⟨HEQ.out _ (.inl (by omega)), HEQ.out _ (.inr (by omega))⟩, hfin⟩
          · go_simp
            go_at_call 55
            refine (release_any eb Hb hc held sent first last k 0 w3.drew HE3.out (HR3.out.kept (fun _ _ => rfl)) (by omega)).mono ?_
            rintro e9 w5 ⟨⟨Bx, cx, rfl, hrow5⟩, hb5⟩
            have HB5 := Lib.hid (show Below w3.heap.size w3 w5 from ⟨hb5.os, hb5.tape, hb5.output, hb5.size, hb5.block⟩)
            clear hb5
            obtain ⟨gx, rfl, -⟩ := hrow5.addr (by rw [List.length_map]; omega)
            have HR5 := Lib.hid hrow5
            clear hrow5
            have gb5 := bcell HB5.out gb
            go_simp
            refine hKB.out _ _ trivial (fun _ => ?_)
            refine wpAnyH_ready (rs := [0]) (by kernel_rfl) (by simp) ?_
            refine AllReadyH.cons rfl (fun KC hKC => ?_) (AllReadyH.nil)
            go_simp
            refine hKC.out _ _ trivial (fun _ => ?_)
            refine wpAnyH_ready (rs := [4]) (by kernel_rfl) (by simp) ?_
            refine AllReadyH.cons rfl (fun KE hKE => ?_) (AllReadyH.nil)
            refine step_append_lies _ (by rfl) _ _ _ (by rfl) w.heap.size 62 i0 (.agg #[.int .i64 0, .int .i64 0, .string ⟨#[]⟩]) 3 32 Tryd.underlying57 hi hz0 hz1 hz2 rfl (by decide) (.slice Ba lh.length cb) lh.length _ (by rfl) (G4.out.below HB5.out) ⟨gx, 0, none⟩ held.length cx ((held.map fun s => (⟨k, 0, s⟩ : Hp)).flatMap Hp.cells) (by rfl) (by rw [encs_length 3 Hp.cells hpk, List.length_map]) (World.ownsRow.cells HR5.out rfl) (hp_one _) (by omega) (by unfold maxLen; omega) (by omega) (by have := HB5.out.size; omega) w5.heap.size rfl ?_
            intro g cap x7 hown7 hg7 hat7 hlt7
            have HW7 := Lib.hid hown7; have HG7 := Lib.hid hg7; have HA7 := Lib.hid hat7
            have gb7 : Hid (x7.heap[w.heap.size + 3]? = some (.cells #[.slice Ba lh.length cb] 57)) := Lib.hid ((hg7.block _ (by have := HB5.out.size; omega) (fun e => by have := G6.out _ (ob_bk e.symm); omega)).trans (bblock HB5.out G2.out))
            clear hown7 hg7 hat7
            refine hKE.out _ _ trivial (fun _ => ?_)
            refine wpAnyH_ready (rs := [5]) (by kernel_rfl) (by simp) ?_
            refine AllReadyH.cons rfl (fun KF hKF => ?_) (AllReadyH.nil)
            have q7 := (cell_of_box gb7.out).1; have z7 := (cell_of_box gb7.out).2
            go_simp
            have HB5S := HB5.out.size
            have hTO := TOut.appH (W := w5) (w := w) (f := f) (lm := lm) (lh := lh) (l := held.map fun s => (⟨k, 0, s⟩ : Hp)) ⟨by omega, by omega⟩ (bblock HB5.out G1.out) (bblock HB5.out G2.out) (G3.out.below HB5.out) G5.out G6.out G7.out (by rw [List.length_map]; exact HW7.out) HG7.out (HA7.out.imp id (fun q => by omega))
            rw [List.length_map] at hTO
            have hTM := (HM3.out.below hT0 HB5.out).rows hT0 (.inr rfl) HG7.out (fun q e => G6.out q (ob_bk e)) hTO
            have HTM := Lib.hid hTM
            have HEQ : Hid (∀ q, q = w.heap.size + 5 ∨ q = w.heap.size + 6 → (World.setCell x7 ⟨w.heap.size + 3, 0, none⟩ (.slice (some ⟨g, 0, none⟩) (lh.length + held.length) cap)).heap[q]? = W.heap[q]?) := Lib.hid fun q hq => by
              rw [Below.heap_setCell _ _ _ _ (by show q ≠ w.heap.size + 3; omega)]
              refine (HG7.out.block q (by omega) (fun r => by have := G6.out q (ob_bk r.symm); omega)).trans ?_
              exact (HB5.out.block q (by omega)).trans (HQ3.out q (by omega))
            clear q7 z7 hTO hTM
            generalize World.setCell x7 ⟨w.heap.size + 3, 0, none⟩ (.slice (some ⟨g, 0, none⟩) (lh.length + held.length) cap) = x8 at *
            refine hKF.out _ _ trivial (fun _ => ?_)
            refine wpAnyH_done (by kernel_rfl) ?_ _
            gi_wp2
            have hfin := TM.next (e := ⟨k, .inc held sent first last, eb, Hb, hce⟩) HN.out HE.out (lm := []) (lh := held.map fun s => (⟨k, 0, s⟩ : Hp)) (by rw [HLM.out, HLH.out, List.append_nil]; exact HTM.out) rfl (by unfold tickM; dsimp only; rw [if_neg (fun q => by have := h3n.out; have := q.2; omega)]) (by unfold tickH; dsimp only; rw [if_pos ⟨HBB.out, by have := h3n.out; omega⟩])
            exact ⟨⟨HEQ.out _ (.inl (by omega)), HEQ.out _ (.inr (by omega))⟩, hfin⟩
end Go.Proofs.YtmgjcjacoegocaaDoor.Ar
