/-
  The contract of (*Table).Tick.
-/
import Derived.Test.YtmgjcjacoegocaaDoorReM
import Derived.Test.YtmgjcjacoegocaaDoorReOrd
import Derived.Test.YtmgjcjacoegocaaDoorReSame
import Derived.Test.YtmgjcjacoegocaaDoorRound
import Derived.Test.YtmgjcjacoegocaaDoorHeld
import Derived.Deep.AppendLies
import Derived.WalkMore
import Derived.Deep.RegionHeld3
import Derived.BigQuiet
import Derived.Deep.QuietTactic
import Derived.Maps.AppendAt
namespace Go.Proofs.YtmgjcjacoegocaaDoor.Re
set_option maxRecDepth 100000
open Go.RowKit Go.Proofs.YtmgjcjacoegocaaDoor.Wire Go.Shelf
open Go.Proofs.YtmgjcjacoegocaaDoor.Ip (Pk)
attribute [local go_sem] Oper.semAt_some

/-- is the datagram too old? -/
def oldB (now : Int) (H : Hf) : Bool := decide (H.start ≤ now ∧ 30 ≤ now - H.start)
def keepT (now : Int) (L : List En) : List En := L.filter fun e => !oldB now e.H
/-- the first fragments that are told -/
def toldT (now : Int) (L : List En) : List Pk := (L.filter fun e => oldB now e.H && e.H.started).map fun e => e.H.first
/-- the blocks of the walk: boxes of the table's pointer, of the time, of the result; the iterator's box; the loop's two -/
structure TBox (w : World) (T : Nat) (now : Int) (W : World) : Prop where
  bx : BoxT W w.heap.size T
  nb : W.heap[w.heap.size + 1]? = some (.cells #[.int .i64 now] 3)
  ix : BoxT W (w.heap.size + 3) T
/-- the result so far -/
def TOut (w : World) (n : Nat) (l : List Pk) (f : Nat) (W : World) : Prop := ∃ A c, n = l.length ∧ W.heap[w.heap.size + 2]? = some (.cells #[.slice A n c] 79) ∧ W.ownsRow w.heap.size 83 9 (.slice A n c) n (pkC l) ∧ ∀ a, A = some a → w.heap.size + 6 ≤ a.block ∧ a.block ≠ f
/-- the state ahead of round i -/
structure TSt (w : World) (T m : Nat) (clk : Nat) (O : Option Addr) (oc : Nat) (now : Int) (L : List En) (f : Nat) (o : Obj) (i : Nat) (W : World) : Prop where
  tab : ∃ es, Tab W T m es clk O oc (keepT now (L.take i) ++ L.drop i)
  chg : Chg (TOwn T m O L) w W
  box : TBox w T now W
  out : TOut w (toldT now (L.take i)).length (toldT now (L.take i)) f W
  fo : W.heap[f]? = some o
  big : w.heap.size + 6 ≤ W.heap.size
  fl : w.heap.size + 4 ≤ f ∧ f ≠ w.heap.size + 5
section
variable {w : World} {T m : Nat} {clk : Nat} {O : Option Addr} {oc : Nat} {now : Int} {L : List En} {f : Nat} {o : Obj} {i : Nat} {W W' : World}
theorem TOut.kept {n : Nat} {l : List Pk} (h : TOut w n l f W) (hk : ∀ q, (q = w.heap.size + 2 ∨ w.heap.size + 6 ≤ q) → q < W.heap.size → W'.heap[q]? = W.heap[q]?) : TOut w n l f W' := by
  obtain ⟨A, c, h0, h1, h2, h3⟩ := h
  refine ⟨A, c, h0, (hk _ (.inl rfl) (blk_lt h1)).trans h1, ?_, h3⟩
  refine ⟨h2.1, ?_⟩
  rcases h2.2 with q | ⟨g, cap, cur, e, q1, q2, q3⟩
  · exact .inl q
  · injection e with e1 e2 e3
    subst e1
    exact .inr ⟨g, cap, cur, by rw [e3], q1, (hk g (.inr (h3 _ rfl).1) (blk_lt q2)).trans q2, q3⟩
/-- all blocks stand but the loop's record and what is new -/
theorem TSt.kept (h : TSt w T m clk O oc now L f o i W) (hT0 : ∀ q, TOwn T m O L q → q < w.heap.size) (hsz : W.heap.size ≤ W'.heap.size) (hos : W'.os = W.os ∧ W'.tape = W.tape ∧ W'.output = W.output) (hk : ∀ q, q ≠ w.heap.size + 5 → q < W.heap.size → W'.heap[q]? = W.heap[q]?) : TSt w T m clk O oc now L f o i W' := by
  obtain ⟨es, ht⟩ := h.tab
  have hown : ∀ q, TOwn T m O (keepT now (L.take i) ++ L.drop i) q → q < w.heap.size := fun q hq => hT0 q (by
    rcases hq with r | r | r | ⟨e, he, r⟩
    · exact .inl r
    · exact .inr (.inl r)
    · exact .inr (.inr (.inl r))
    · refine .inr (.inr (.inr ⟨e, ?_, r⟩))
      rcases List.mem_append.1 he with he | he
      · exact List.mem_of_mem_take (List.mem_filter.1 he).1
      · exact List.mem_of_mem_drop he)
  have hsw := h.big
  exact ⟨⟨es, ht.kept (fun q hq => hk q (by have := hown q hq; omega) (ht.lt hq))⟩, ⟨hos.1.trans h.chg.os, hos.2.1.trans h.chg.tape, hos.2.2.trans h.chg.output, Nat.le_trans h.chg.size hsz, fun q hq hn => (hk q (by omega) (by omega)).trans (h.chg.block q hq hn)⟩,
    ⟨(hk _ (by omega) (blk_lt h.box.bx)).trans h.box.bx, (hk _ (by omega) (blk_lt h.box.nb)).trans h.box.nb, (hk _ (by omega) (blk_lt h.box.ix)).trans h.box.ix⟩,
    h.out.kept (fun q hq hl => hk q (by omega) hl), (hk _ h.fl.2 (blk_lt h.fo)).trans h.fo, by omega, h.fl⟩
theorem TSt.below (h : TSt w T m clk O oc now L f o i W) (hT0 : ∀ q, TOwn T m O L q → q < w.heap.size) (hb : Below W.heap.size W W') : TSt w T m clk O oc now L f o i W' := h.kept hT0 hb.size ⟨hb.os, hb.tape, hb.output⟩ (fun q _ hq => hb.block q hq)
theorem TSt.put (h : TSt w T m clk O oc now L f o i W) (hT0 : ∀ q, TOwn T m O L q → q < w.heap.size) (x : Obj) : TSt w T m clk O oc now L f o i (W.putObj (w.heap.size + 5) x) := h.kept hT0 (by simp [World.putObj]) ⟨rfl, rfl, rfl⟩ (fun q hne _ => World.putObj_heap_other hne)
end
theorem age_eq (now st : Int) (h1 : -9223372036854775808 ≤ now ∧ now ≤ 9223372036854775807) (h2 : -9223372036854775808 ≤ st ∧ st ≤ 9223372036854775807) (h : st ≤ now) : IntKind.u64.wrap (IntKind.u64.wrap now - IntKind.u64.wrap st) = now - st := by
  simp only [IntKind.wrap_u64]; omega
theorem take_snoc' {L : List En} {i : Nat} {e : En} (he : L[i]? = some e) : L.take (i + 1) = L.take i ++ [e] := by
  rw [List.take_add_one, he]; rfl
theorem drop_cons' {L : List En} {i : Nat} {e : En} (he : L[i]? = some e) : L.drop i = e :: L.drop (i + 1) := by
  obtain ⟨hi, rfl⟩ := List.getElem?_eq_some_iff.1 he
  exact List.drop_eq_getElem_cons hi
theorem rest_keep {now : Int} {L : List En} {i : Nat} {e : En} (he : L[i]? = some e) (hn : oldB now e.H = false) : keepT now (L.take (i + 1)) ++ L.drop (i + 1) = keepT now (L.take i) ++ L.drop i ∧ toldT now (L.take (i + 1)) = toldT now (L.take i) := by
  rw [take_snoc' he, drop_cons' he]
  simp [keepT, toldT, List.filter_append, hn]
theorem rest_drop {now : Int} {L : List En} {i : Nat} {e : En} (he : L[i]? = some e) (ho : oldB now e.H = true) : (keepT now (L.take i) ++ L.drop i).eraseIdx (keepT now (L.take i)).length = keepT now (L.take (i + 1)) ++ L.drop (i + 1) := by
  rw [List.eraseIdx_append_of_length_le (Nat.le_refl _), Nat.sub_self, drop_cons' he, take_snoc' he]
  simp [keepT, List.filter_append, ho]
theorem told_no {now : Int} {L : List En} {i : Nat} {e : En} (he : L[i]? = some e) (hs : e.H.started = false) : toldT now (L.take (i + 1)) = toldT now (L.take i) := by
  rw [take_snoc' he]
  simp [toldT, List.filter_append, hs]
theorem told_yes {now : Int} {L : List En} {i : Nat} {e : En} (he : L[i]? = some e) (ho : oldB now e.H = true) (hs : e.H.started = true) : toldT now (L.take (i + 1)) = toldT now (L.take i) ++ [e.H.first] := by
  rw [take_snoc' he]
  simp [toldT, List.filter_append, hs, ho]
theorem told_le {now : Int} {L : List En} {i : Nat} : (toldT now (L.take i)).length ≤ L.length := by
  have h1 := List.length_filter_le (fun e => oldB now e.H && e.H.started) (L.take i)
  have h2 := List.length_take (i := i) (l := L)
  unfold toldT
  rw [List.length_map]; omega
theorem rest_le {now : Int} {L : List En} {i : Nat} : (keepT now (L.take i) ++ L.drop i).length ≤ L.length := by
  have h1 := List.length_filter_le (fun e => !oldB now e.H) (L.take i)
  have h2 := List.length_take (i := i) (l := L)
  unfold keepT
  rw [List.length_append, List.length_drop]; omega
/-- what holds in the middle of a round: the entries Lk, the result l -/
structure TM (w : World) (T m : Nat) (clk : Nat) (O : Option Addr) (oc : Nat) (now : Int) (L : List En) (f : Nat) (o : Obj) (Lk : List En) (l : List Pk) (W : World) : Prop where
  tab : ∃ es, Tab W T m es clk O oc Lk
  sub : ∀ e ∈ Lk, e ∈ L
  chg : Chg (TOwn T m O L) w W
  box : TBox w T now W
  out : TOut w l.length l f W
  fo : W.heap[f]? = some o
  big : w.heap.size + 6 ≤ W.heap.size
  fl : w.heap.size + 4 ≤ f ∧ f ≠ w.heap.size + 5
theorem rest_sub {now : Int} {L : List En} {i : Nat} : ∀ e ∈ keepT now (L.take i) ++ L.drop i, e ∈ L := fun e he => by
  rcases List.mem_append.1 he with he | he
  · exact List.mem_of_mem_take (List.mem_filter.1 he).1
  · exact List.mem_of_mem_drop he
section
variable {w : World} {T m : Nat} {clk : Nat} {O : Option Addr} {oc : Nat} {now : Int} {L : List En} {f : Nat} {o : Obj} {i : Nat} {Lk : List En} {l : List Pk} {W W' : World}
theorem TSt.mid (h : TSt w T m clk O oc now L f o i W) : TM w T m clk O oc now L f o (keepT now (L.take i) ++ L.drop i) (toldT now (L.take i)) W := ⟨h.tab, rest_sub, h.chg, h.box, h.out, h.fo, h.big, h.fl⟩
theorem TM.st (h : TM w T m clk O oc now L f o Lk l W) (h1 : Lk = keepT now (L.take i) ++ L.drop i) (h2 : l = toldT now (L.take i)) : TSt w T m clk O oc now L f o i W := by subst h1; subst h2; exact ⟨h.tab, h.chg, h.box, h.out, h.fo, h.big, h.fl⟩
theorem TM.own (h : TM w T m clk O oc now L f o Lk l W) {q : Nat} (hq : TOwn T m O Lk q) : TOwn T m O L q := by
  rcases hq with r | r | r | ⟨e, he, r⟩
  · exact .inl r
  · exact .inr (.inl r)
  · exact .inr (.inr (.inl r))
  · exact .inr (.inr (.inr ⟨e, h.sub e he, r⟩))
/-- an entry is struck out -/
theorem TM.rem (h : TM w T m clk O oc now L f o Lk l W) (hT0 : ∀ q, TOwn T m O L q → q < w.heap.size) {j : Nat} (hc : Chg (S3 T m O) W W') (ht : ∃ es, Tab W' T m es clk O oc (Lk.eraseIdx j)) : TM w T m clk O oc now L f o (Lk.eraseIdx j) l W' := by
  have hS : ∀ q, S3 T m O q → TOwn T m O L q := fun q hq => by
    rcases hq with r | r | r
    · exact .inl r
    · exact .inr (.inl r)
    · exact .inr (.inr (.inl r))
  have hb := h.big
  have hk : ∀ q, w.heap.size ≤ q → q < W.heap.size → W'.heap[q]? = W.heap[q]? := fun q h1 h2 => hc.block q h2 (fun r => by have := hT0 q (hS q r); omega)
  exact ⟨ht, fun e he => h.sub e ((List.eraseIdx_sublist _ _).subset he), h.chg.trans hc (fun q hq => .inl (hS q hq)),
    ⟨(hk _ (by omega) (blk_lt h.box.bx)).trans h.box.bx, (hk _ (by omega) (blk_lt h.box.nb)).trans h.box.nb, (hk _ (by omega) (blk_lt h.box.ix)).trans h.box.ix⟩,
    h.out.kept (fun q hq hl => hk q (by omega) hl), (hk _ (by have := h.fl; omega) (blk_lt h.fo)).trans h.fo, Nat.le_trans hb hc.size, h.fl⟩
theorem TM.below (h : TM w T m clk O oc now L f o Lk l W) (hb : Below W.heap.size W W') : TM w T m clk O oc now L f o Lk l W' := by
  obtain ⟨es, ht⟩ := h.tab
  exact ⟨⟨es, ht.below hb⟩, h.sub, h.chg.call hb, ⟨bblock hb h.box.bx, bblock hb h.box.nb, bblock hb h.box.ix⟩, h.out.kept (fun q _ hl => hb.block q hl), bblock hb h.fo, Nat.le_trans h.big hb.size, h.fl⟩
/-- a packet is appended to the result -/
theorem TM.app {W1 : World} {g cap : Nat} {A : Option Addr} {c : Nat} {p : Pk} (h : TM w T m clk O oc now L f o Lk l W) (hT0 : ∀ q, TOwn T m O L q → q < w.heap.size) (hA : ∀ a, A = some a → w.heap.size + 6 ≤ a.block ∧ a.block ≠ f)
    (ho : W1.ownsRow w.heap.size 83 9 (.slice (some ⟨g, 0, none⟩) (l.length + 1) cap) (l.length + 1) (pkC l ++ [.int .i64 p.f, .int .i64 p.t, .int .i64 p.pr, .int .i64 p.ttl, .int .i64 p.id, .bool p.df, .bool p.mf, .int .i64 p.off, .string p.s])) (hg : W.grownBy W1 (Value.ownBlock (.slice A l.length c))) (hw : Value.ownBlock (.slice A l.length c) = some g ∨ W.heap.size ≤ g) :
    TM w T m clk O oc now L f o Lk (l ++ [p]) (W1.setCell ⟨w.heap.size + 2, 0, none⟩ (.slice (some ⟨g, 0, none⟩) (l.length + 1) cap)) := by
  have hb := h.big
  have hflt := blk_lt h.fo
  have hob : ∀ k, Value.ownBlock (.slice A l.length c) = some k → w.heap.size + 6 ≤ k ∧ k ≠ f := fun k e => by
    cases A with
    | none => cases e
    | some a => have := hA a rfl; have e2 : a.block = k := by simpa [Value.ownBlock] using e
                rw [← e2]; exact this
  have hgb : w.heap.size + 6 ≤ g ∧ g ≠ f := by
    rcases hw with q | q
    · exact hob g q
    · omega
  have hk : ∀ q, q < w.heap.size + 6 ∨ q = f → q < W.heap.size → q ≠ w.heap.size + 2 → (W1.setCell ⟨w.heap.size + 2, 0, none⟩ (.slice (some ⟨g, 0, none⟩) (l.length + 1) cap)).heap[q]? = W.heap[q]? := fun q hq hl hne => by
    rw [Below.heap_setCell _ _ _ _ (by exact hne)]
    exact hg.block q hl (fun e => by have := hob q e.symm; omega)
  obtain ⟨es, ht⟩ := h.tab
  obtain ⟨A', c', -, hbx, -, -⟩ := h.out
  have hbx1 : W1.heap[w.heap.size + 2]? = some (.cells #[.slice A' l.length c'] 79) := (hg.block _ (blk_lt hbx) (fun e => by have := hob _ e.symm; omega)).trans hbx
  refine ⟨⟨es, ht.kept (fun q hq => hk q (.inl (by have := hT0 q (h.own hq); omega)) (ht.lt hq) (by have := hT0 q (h.own hq); omega))⟩, h.sub, ?_,
    ⟨(hk _ (.inl (by omega)) (blk_lt h.box.bx) (by omega)).trans h.box.bx, (hk _ (.inl (by omega)) (blk_lt h.box.nb) (by omega)).trans h.box.nb, (hk _ (.inl (by omega)) (blk_lt h.box.ix) (by omega)).trans h.box.ix⟩, ?_, (hk _ (.inr rfl) hflt (by have := h.fl; omega)).trans h.fo, ?_, h.fl⟩
  · exact (h.chg.grown hg (fun k e => .inr (by have := hob k e; omega))).set (.inr (by show w.heap.size ≤ w.heap.size + 2; omega)) _
  · refine ⟨some ⟨g, 0, none⟩, cap, by simp, ?_, ?_, fun a e => by cases e; exact hgb⟩
    · rw [block_setCell (k := 0) hbx1]; simp
    · have hC : pkC (l ++ [p]) = pkC l ++ [.int .i64 p.f, .int .i64 p.t, .int .i64 p.pr, .int .i64 p.ttl, .int .i64 p.id, .bool p.df, .bool p.mf, .int .i64 p.off, .string p.s] := by simp [pkC, List.flatMap_append]
      have hN : (l ++ [p]).length = l.length + 1 := by simp
      rw [hC, hN]
      refine ⟨ho.1, ?_⟩
      rcases ho.2 with q | ⟨g', cap', cur, e, q1, q2, q3⟩
      · exact .inl q
      · injection e with e1 e2 e3
        cases e1
        subst e3
        exact .inr ⟨g, cap, cur, rfl, q1, (Below.heap_setCell _ _ _ _ (by show g ≠ w.heap.size + 2; omega)).trans q2, q3⟩
  · have := hg.size
    show _ ≤ (World.setCell _ _ _).heap.size
    simp [World.setCell]; omega
end
theorem inOrder_any (T : Nat) (w : World) : Calls Tryd.prog 98 #[.pointer (some ⟨T, 0, none⟩)] w fun x w' =>
    x = .returned (.func (Fn.func 107) #[] #[.pointer (some ⟨w.heap.size, 0, none⟩)]) ∧ w' = w.alloc (.cells #[.pointer (some ⟨T, 0, none⟩)] 84) := by
  go_enter Tryd.func98, Tryd.ntmps98
  go_wp2_with fail
  go_ret
  exact ⟨rfl, rfl⟩
def TickPost (w : World) (T m : Nat) (clk : Nat) (O : Option Addr) (oc : Nat) (now : Int) (L : List En) (x : Ending) (w' : World) : Prop :=
  ∃ es A c, x = .returned (.slice A (toldT now L).length c) ∧ w'.ownsRow w.heap.size 83 9 (.slice A (toldT now L).length c) (toldT now L).length (pkC (toldT now L)) ∧ Tab w' T m es clk O oc (keepT now L) ∧ Chg (TOwn T m O L) w w'
def argK (L : List En) (i : Nat) : Array Value := kArgs (L.getD i (newE ⟨0, 0, 0, 0⟩ 0 0))
theorem argK_of {L : List En} {i : Nat} {e : En} (h : L[i]? = some e) : argK L i = kArgs e := by unfold argK; rw [List.getD_eq_getElem?_getD, h]; rfl
/-- the state behind the assignment of a round -/
structure TJA (w : World) (T m : Nat) (clk : Nat) (O : Option Addr) (oc : Nat) (now : Int) (L : List En) (x : Nat × Nat × Obj) (a : Act) (W : World) : Prop where
  st : TSt w T m clk O oc now L x.2.1 x.2.2 x.1 W
  fr : ∃ (e : En) (kb : Nat), L[x.1]? = some e ∧ w.heap.size + 6 ≤ kb ∧ W.heap[kb]? = some (.cells #[.int .i64 e.k.f, .int .i64 e.k.t, .int .i64 e.k.p, .int .i64 e.k.i] 168) ∧
    a = { tmps := #[.pointer (some ⟨T, 0, none⟩), .int .i64 now, .pointer (some ⟨w.heap.size, 0, none⟩), .pointer (some ⟨w.heap.size + 1, 0, none⟩), .slice none 0 0, .pointer (some ⟨w.heap.size + 2, 0, none⟩), .pointer (some ⟨kb, 0, none⟩), .pointer (some ⟨e.hb, 0, none⟩), .pointer (some ⟨T, 0, none⟩), .bool false, .pointer (some ⟨T, 0, none⟩), .func (Fn.func 107) #[] #[.pointer (some ⟨w.heap.size + 3, 0, none⟩)], .agg #[.int .i64 e.k.f, .int .i64 e.k.t, .int .i64 e.k.p, .int .i64 e.k.i], .pointer (some ⟨e.hb, 0, none⟩), undef, undef, undef, undef, undef, undef, undef, undef, undef, undef, undef, undef, undef, undef, undef, undef, undef, undef, undef, undef, undef, undef, undef, undef, undef, undef, undef, undef, undef, undef, undef, undef], defers := [] }
theorem infoPkA : (Tryd.prog.info? 83).map (fun i => (i.zero, i.size, i.bytes)) = some (some (.agg #[.int .i64 0, .int .i64 0, .int .i64 0, .int .i64 0, .int .i64 0, .bool false, .bool false, .int .i64 0, .string ⟨#[]⟩]), 9, 72) := by kernel_rfl
end Go.Proofs.YtmgjcjacoegocaaDoor.Re
