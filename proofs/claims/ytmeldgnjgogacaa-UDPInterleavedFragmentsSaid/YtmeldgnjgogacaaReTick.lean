/-
  The contract of (*Table).Tick.
-/
import Derived.Test.YtmeldgnjgogacaaReAbs
import Derived.Test.YtmeldgnjgogacaaReOrd
import Derived.Test.YtmeldgnjgogacaaReSame
import Derived.Test.YtmeldgnjgogacaaRound
import Derived.Test.YtmeldgnjgogacaaHeld
import Derived.Deep.AppendLies
import Derived.WalkMore
import Derived.Deep.RegionHeld3
import Derived.BigQuiet
import Derived.Deep.QuietTactic
import Derived.Maps.AppendAt
namespace Go.Proofs.Ytmeldgnjgogacaa.Re
set_option maxRecDepth 100000
open Go.RowKit Go.Proofs.Ytmeldgnjgogacaa.Wire Go.Shelf
open Go.Proofs.Ytmeldgnjgogacaa.Ip (Pk)
attribute [local go_sem] Oper.semAt_some

/-- is the datagram too old? -/
def oldB (now : Int) (H : Hf) : Bool := decide (H.start ≤ now ∧ 30 ≤ now - H.start)
def keepT (now : Int) (L : List En) : List En := L.filter fun e => !oldB now e.H
/-- the first fragments that are told -/
def toldT (now : Int) (L : List En) : List Pk := (L.filter fun e => oldB now e.H && e.H.started).map fun e => e.H.first
/-- the blocks of the walk: boxes of the table's pointer, of the time, of the result; the iterator's box; the loop's two -/
structure TBox (w : World) (T : Nat) (now : Int) (W : World) : Prop where
  bx : BoxT W w.heap.size T
  nb : W.heap[w.heap.size + 1]? = some (.cells #[.int .i64 now] 3)
  ix : BoxT W (w.heap.size + 3) T
/-- the result so far -/
def TOut (w : World) (n : Nat) (l : List Pk) (f : Nat) (W : World) : Prop := ∃ A c, n = l.length ∧ W.heap[w.heap.size + 2]? = some (.cells #[.slice A n c] 37) ∧ W.ownsRow w.heap.size 30 9 (.slice A n c) n (pkC l) ∧ ∀ a, A = some a → w.heap.size + 6 ≤ a.block ∧ a.block ≠ f
/-- the state ahead of round i -/
structure TSt (w : World) (T m : Nat) (clk : Nat) (O : Option Addr) (oc : Nat) (now : Int) (L : List En) (f : Nat) (o : Obj) (i : Nat) (W : World) : Prop where
  tab : ∃ es, Tab W T m es clk O oc (keepT now (L.take i) ++ L.drop i)
  chg : Chg (TOwn T m O L) w W
  box : TBox w T now W
  out : TOut w (toldT now (L.take i)).length (toldT now (L.take i)) f W
  fo : W.heap[f]? = some o
  big : w.heap.size + 6 ≤ W.heap.size
  fl : w.heap.size + 4 ≤ f ∧ f ≠ w.heap.size + 5
section
variable {w : World} {T m : Nat} {clk : Nat} {O : Option Addr} {oc : Nat} {now : Int} {L : List En} {f : Nat} {o : Obj} {i : Nat} {W W' : World}
theorem TOut.kept {n : Nat} {l : List Pk} (h : TOut w n l f W) (hk : ∀ q, (q = w.heap.size + 2 ∨ w.heap.size + 6 ≤ q) → q < W.heap.size → W'.heap[q]? = W.heap[q]?) : TOut w n l f W' := by
  obtain ⟨A, c, h0, h1, h2, h3⟩ := h
  refine ⟨A, c, h0, (hk _ (.inl rfl) (blk_lt h1)).trans h1, ?_, h3⟩
  refine ⟨h2.1, ?_⟩
  rcases h2.2 with q | ⟨g, cap, cur, e, q1, q2, q3⟩
  · exact .inl q
  · injection e with e1 e2 e3
    subst e1
    exact .inr ⟨g, cap, cur, by rw [e3], q1, (hk g (.inr (h3 _ rfl).1) (blk_lt q2)).trans q2, q3⟩
/-- all blocks stand but the loop's record and what is new -/
theorem TSt.kept (h : TSt w T m clk O oc now L f o i W) (hT0 : ∀ q, TOwn T m O L q → q < w.heap.size) (hsz : W.heap.size ≤ W'.heap.size) (hos : W'.os = W.os ∧ W'.tape = W.tape ∧ W'.output = W.output) (hk : ∀ q, q ≠ w.heap.size + 5 → q < W.heap.size → W'.heap[q]? = W.heap[q]?) : TSt w T m clk O oc now L f o i W' := by
  obtain ⟨es, ht⟩ := h.tab
  have hown : ∀ q, TOwn T m O (keepT now (L.take i) ++ L.drop i) q → q < w.heap.size := fun q hq => hT0 q (by
    rcases hq with r | r | r | ⟨e, he, r⟩
    · exact .inl r
    · exact .inr (.inl r)
    · exact .inr (.inr (.inl r))
    · refine .inr (.inr (.inr ⟨e, ?_, r⟩))
      rcases List.mem_append.1 he with he | he
      · exact List.mem_of_mem_take (List.mem_filter.1 he).1
      · exact List.mem_of_mem_drop he)
  have hsw := h.big
  exact ⟨⟨es, ht.kept (fun q hq => hk q (by have := hown q hq; omega) (ht.lt hq))⟩, ⟨hos.1.trans h.chg.os, hos.2.1.trans h.chg.tape, hos.2.2.trans h.chg.output, Nat.le_trans h.chg.size hsz, fun q hq hn => (hk q (by omega) (by omega)).trans (h.chg.block q hq hn)⟩,
    ⟨(hk _ (by omega) (blk_lt h.box.bx)).trans h.box.bx, (hk _ (by omega) (blk_lt h.box.nb)).trans h.box.nb, (hk _ (by omega) (blk_lt h.box.ix)).trans h.box.ix⟩,
    h.out.kept (fun q hq hl => hk q (by omega) hl), (hk _ h.fl.2 (blk_lt h.fo)).trans h.fo, by omega, h.fl⟩
theorem TSt.below (h : TSt w T m clk O oc now L f o i W) (hT0 : ∀ q, TOwn T m O L q → q < w.heap.size) (hb : Below W.heap.size W W') : TSt w T m clk O oc now L f o i W' := h.kept hT0 hb.size ⟨hb.os, hb.tape, hb.output⟩ (fun q _ hq => hb.block q hq)
theorem TSt.put (h : TSt w T m clk O oc now L f o i W) (hT0 : ∀ q, TOwn T m O L q → q < w.heap.size) (x : Obj) : TSt w T m clk O oc now L f o i (W.putObj (w.heap.size + 5) x) := h.kept hT0 (by simp [World.putObj]) ⟨rfl, rfl, rfl⟩ (fun q hne _ => World.putObj_heap_other hne)
end
theorem age_eq (now st : Int) (h1 : -9223372036854775808 ≤ now ∧ now ≤ 9223372036854775807) (h2 : -9223372036854775808 ≤ st ∧ st ≤ 9223372036854775807) (h : st ≤ now) : IntKind.u64.wrap (IntKind.u64.wrap now - IntKind.u64.wrap st) = now - st := by
  simp only [IntKind.wrap_u64]; omega
theorem take_snoc' {L : List En} {i : Nat} {e : En} (he : L[i]? = some e) : L.take (i + 1) = L.take i ++ [e] := by
  rw [List.take_add_one, he]; rfl
theorem drop_cons' {L : List En} {i : Nat} {e : En} (he : L[i]? = some e) : L.drop i = e :: L.drop (i + 1) := by
  obtain ⟨hi, rfl⟩ := List.getElem?_eq_some_iff.1 he
  exact List.drop_eq_getElem_cons hi
theorem rest_keep {now : Int} {L : List En} {i : Nat} {e : En} (he : L[i]? = some e) (hn : oldB now e.H = false) : keepT now (L.take (i + 1)) ++ L.drop (i + 1) = keepT now (L.take i) ++ L.drop i ∧ toldT now (L.take (i + 1)) = toldT now (L.take i) := by
  rw [take_snoc' he, drop_cons' he]
  simp [keepT, toldT, List.filter_append, hn]
theorem rest_drop {now : Int} {L : List En} {i : Nat} {e : En} (he : L[i]? = some e) (ho : oldB now e.H = true) : (keepT now (L.take i) ++ L.drop i).eraseIdx (keepT now (L.take i)).length = keepT now (L.take (i + 1)) ++ L.drop (i + 1) := by
  rw [List.eraseIdx_append_of_length_le (Nat.le_refl _), Nat.sub_self, drop_cons' he, take_snoc' he]
  simp [keepT, List.filter_append, ho]
theorem told_no {now : Int} {L : List En} {i : Nat} {e : En} (he : L[i]? = some e) (hs : e.H.started = false) : toldT now (L.take (i + 1)) = toldT now (L.take i) := by
  rw [take_snoc' he]
  simp [toldT, List.filter_append, hs]
theorem told_yes {now : Int} {L : List En} {i : Nat} {e : En} (he : L[i]? = some e) (ho : oldB now e.H = true) (hs : e.H.started = true) : toldT now (L.take (i + 1)) = toldT now (L.take i) ++ [e.H.first] := by
  rw [take_snoc' he]
  simp [toldT, List.filter_append, hs, ho]
theorem told_le {now : Int} {L : List En} {i : Nat} : (toldT now (L.take i)).length ≤ L.length := by
  have h1 := List.length_filter_le (fun e => oldB now e.H && e.H.started) (L.take i)
  have h2 := List.length_take (i := i) (l := L)
  unfold toldT
  rw [List.length_map]; omega
theorem rest_le {now : Int} {L : List En} {i : Nat} : (keepT now (L.take i) ++ L.drop i).length ≤ L.length := by
  have h1 := List.length_filter_le (fun e => !oldB now e.H) (L.take i)
  have h2 := List.length_take (i := i) (l := L)
  unfold keepT
  rw [List.length_append, List.length_drop]; omega
/-- what holds in the middle of a round: the entries Lk, the result l -/
structure TM (w : World) (T m : Nat) (clk : Nat) (O : Option Addr) (oc : Nat) (now : Int) (L : List En) (f : Nat) (o : Obj) (Lk : List En) (l : List Pk) (W : World) : Prop where
  tab : ∃ es, Tab W T m es clk O oc Lk
  sub : ∀ e ∈ Lk, e ∈ L
  chg : Chg (TOwn T m O L) w W
  box : TBox w T now W
  out : TOut w l.length l f W
  fo : W.heap[f]? = some o
  big : w.heap.size + 6 ≤ W.heap.size
  fl : w.heap.size + 4 ≤ f ∧ f ≠ w.heap.size + 5
theorem rest_sub {now : Int} {L : List En} {i : Nat} : ∀ e ∈ keepT now (L.take i) ++ L.drop i, e ∈ L := fun e he => by
  rcases List.mem_append.1 he with he | he
  · exact List.mem_of_mem_take (List.mem_filter.1 he).1
  · exact List.mem_of_mem_drop he
section
variable {w : World} {T m : Nat} {clk : Nat} {O : Option Addr} {oc : Nat} {now : Int} {L : List En} {f : Nat} {o : Obj} {i : Nat} {Lk : List En} {l : List Pk} {W W' : World}
theorem TSt.mid (h : TSt w T m clk O oc now L f o i W) : TM w T m clk O oc now L f o (keepT now (L.take i) ++ L.drop i) (toldT now (L.take i)) W := ⟨h.tab, rest_sub, h.chg, h.box, h.out, h.fo, h.big, h.fl⟩
theorem TM.st (h : TM w T m clk O oc now L f o Lk l W) (h1 : Lk = keepT now (L.take i) ++ L.drop i) (h2 : l = toldT now (L.take i)) : TSt w T m clk O oc now L f o i W := by subst h1; subst h2; exact ⟨h.tab, h.chg, h.box, h.out, h.fo, h.big, h.fl⟩
theorem TM.own (h : TM w T m clk O oc now L f o Lk l W) {q : Nat} (hq : TOwn T m O Lk q) : TOwn T m O L q := by
  rcases hq with r | r | r | ⟨e, he, r⟩
  · exact .inl r
  · exact .inr (.inl r)
  · exact .inr (.inr (.inl r))
  · exact .inr (.inr (.inr ⟨e, h.sub e he, r⟩))
/-- an entry is struck out -/
theorem TM.rem (h : TM w T m clk O oc now L f o Lk l W) (hT0 : ∀ q, TOwn T m O L q → q < w.heap.size) {j : Nat} (hc : Chg (S3 T m O) W W') (ht : ∃ es, Tab W' T m es clk O oc (Lk.eraseIdx j)) : TM w T m clk O oc now L f o (Lk.eraseIdx j) l W' := by
  have hS : ∀ q, S3 T m O q → TOwn T m O L q := fun q hq => by
    rcases hq with r | r | r
    · exact .inl r
    · exact .inr (.inl r)
    · exact .inr (.inr (.inl r))
  have hb := h.big
  have hk : ∀ q, w.heap.size ≤ q → q < W.heap.size → W'.heap[q]? = W.heap[q]? := fun q h1 h2 => hc.block q h2 (fun r => by have := hT0 q (hS q r); omega)
  exact ⟨ht, fun e he => h.sub e ((List.eraseIdx_sublist _ _).subset he), h.chg.trans hc (fun q hq => .inl (hS q hq)),
    ⟨(hk _ (by omega) (blk_lt h.box.bx)).trans h.box.bx, (hk _ (by omega) (blk_lt h.box.nb)).trans h.box.nb, (hk _ (by omega) (blk_lt h.box.ix)).trans h.box.ix⟩,
    h.out.kept (fun q hq hl => hk q (by omega) hl), (hk _ (by have := h.fl; omega) (blk_lt h.fo)).trans h.fo, Nat.le_trans hb hc.size, h.fl⟩
theorem TM.below (h : TM w T m clk O oc now L f o Lk l W) (hb : Below W.heap.size W W') : TM w T m clk O oc now L f o Lk l W' := by
  obtain ⟨es, ht⟩ := h.tab
  exact ⟨⟨es, ht.below hb⟩, h.sub, h.chg.call hb, ⟨bblock hb h.box.bx, bblock hb h.box.nb, bblock hb h.box.ix⟩, h.out.kept (fun q _ hl => hb.block q hl), bblock hb h.fo, Nat.le_trans h.big hb.size, h.fl⟩
/-- a packet is appended to the result -/
theorem TM.app {W1 : World} {g cap : Nat} {A : Option Addr} {c : Nat} {p : Pk} (h : TM w T m clk O oc now L f o Lk l W) (hT0 : ∀ q, TOwn T m O L q → q < w.heap.size) (hA : ∀ a, A = some a → w.heap.size + 6 ≤ a.block ∧ a.block ≠ f)
    (ho : W1.ownsRow w.heap.size 30 9 (.slice (some ⟨g, 0, none⟩) (l.length + 1) cap) (l.length + 1) (pkC l ++ [.int .i64 p.f, .int .i64 p.t, .int .i64 p.pr, .int .i64 p.ttl, .int .i64 p.id, .bool p.df, .bool p.mf, .int .i64 p.off, .string p.s])) (hg : W.grownBy W1 (Value.ownBlock (.slice A l.length c))) (hw : Value.ownBlock (.slice A l.length c) = some g ∨ W.heap.size ≤ g) :
    TM w T m clk O oc now L f o Lk (l ++ [p]) (W1.setCell ⟨w.heap.size + 2, 0, none⟩ (.slice (some ⟨g, 0, none⟩) (l.length + 1) cap)) := by
  have hb := h.big
  have hflt := blk_lt h.fo
  have hob : ∀ k, Value.ownBlock (.slice A l.length c) = some k → w.heap.size + 6 ≤ k ∧ k ≠ f := fun k e => by
    cases A with
    | none => cases e
    | some a => have := hA a rfl; have e2 : a.block = k := by simpa [Value.ownBlock] using e
                rw [← e2]; exact this
  have hgb : w.heap.size + 6 ≤ g ∧ g ≠ f := by
    rcases hw with q | q
    · exact hob g q
    · omega
  have hk : ∀ q, q < w.heap.size + 6 ∨ q = f → q < W.heap.size → q ≠ w.heap.size + 2 → (W1.setCell ⟨w.heap.size + 2, 0, none⟩ (.slice (some ⟨g, 0, none⟩) (l.length + 1) cap)).heap[q]? = W.heap[q]? := fun q hq hl hne => by
    rw [Below.heap_setCell _ _ _ _ (by exact hne)]
    exact hg.block q hl (fun e => by have := hob q e.symm; omega)
  obtain ⟨es, ht⟩ := h.tab
  obtain ⟨A', c', -, hbx, -, -⟩ := h.out
  have hbx1 : W1.heap[w.heap.size + 2]? = some (.cells #[.slice A' l.length c'] 37) := (hg.block _ (blk_lt hbx) (fun e => by have := hob _ e.symm; omega)).trans hbx
  refine ⟨⟨es, ht.kept (fun q hq => hk q (.inl (by have := hT0 q (h.own hq); omega)) (ht.lt hq) (by have := hT0 q (h.own hq); omega))⟩, h.sub, ?_,
    ⟨(hk _ (.inl (by omega)) (blk_lt h.box.bx) (by omega)).trans h.box.bx, (hk _ (.inl (by omega)) (blk_lt h.box.nb) (by omega)).trans h.box.nb, (hk _ (.inl (by omega)) (blk_lt h.box.ix) (by omega)).trans h.box.ix⟩, ?_, (hk _ (.inr rfl) hflt (by have := h.fl; omega)).trans h.fo, ?_, h.fl⟩
  · exact (h.chg.grown hg (fun k e => .inr (by have := hob k e; omega))).set (.inr (by show w.heap.size ≤ w.heap.size + 2; omega)) _
  · refine ⟨some ⟨g, 0, none⟩, cap, by simp, ?_, ?_, fun a e => by cases e; exact hgb⟩
    · rw [block_setCell (k := 0) hbx1]; simp
    · have hC : pkC (l ++ [p]) = pkC l ++ [.int .i64 p.f, .int .i64 p.t, .int .i64 p.pr, .int .i64 p.ttl, .int .i64 p.id, .bool p.df, .bool p.mf, .int .i64 p.off, .string p.s] := by simp [pkC, List.flatMap_append]
      have hN : (l ++ [p]).length = l.length + 1 := by simp
      rw [hC, hN]
      refine ⟨ho.1, ?_⟩
      rcases ho.2 with q | ⟨g', cap', cur, e, q1, q2, q3⟩
      · exact .inl q
      · injection e with e1 e2 e3
        cases e1
        subst e3
        exact .inr ⟨g, cap, cur, rfl, q1, (Below.heap_setCell _ _ _ _ (by show g ≠ w.heap.size + 2; omega)).trans q2, q3⟩
  · have := hg.size
    show _ ≤ (World.setCell _ _ _).heap.size
    simp [World.setCell]; omega
end
theorem inOrder_any (T : Nat) (w : World) : Calls Try.prog 45 #[.pointer (some ⟨T, 0, none⟩)] w fun x w' =>
    x = .returned (.func (Fn.func 64) #[] #[.pointer (some ⟨w.heap.size, 0, none⟩)]) ∧ w' = w.alloc (.cells #[.pointer (some ⟨T, 0, none⟩)] 25) := by
  go_enter Try.func45, Try.ntmps45
  go_wp2_with fail
  go_ret
  exact ⟨rfl, rfl⟩
def TickPost (w : World) (T m : Nat) (clk : Nat) (O : Option Addr) (oc : Nat) (now : Int) (L : List En) (x : Ending) (w' : World) : Prop :=
  ∃ es A c, x = .returned (.slice A (toldT now L).length c) ∧ w'.ownsRow w.heap.size 30 9 (.slice A (toldT now L).length c) (toldT now L).length (pkC (toldT now L)) ∧ Tab w' T m es clk O oc (keepT now L) ∧ Chg (TOwn T m O L) w w'
def argK (L : List En) (i : Nat) : Array Value := kArgs (L.getD i (newE ⟨0, 0, 0, 0⟩ 0 0))
theorem argK_of {L : List En} {i : Nat} {e : En} (h : L[i]? = some e) : argK L i = kArgs e := by unfold argK; rw [List.getD_eq_getElem?_getD, h]; rfl
/-- the state behind the assignment of a round -/
structure TJA (w : World) (T m : Nat) (clk : Nat) (O : Option Addr) (oc : Nat) (now : Int) (L : List En) (x : Nat × Nat × Obj) (a : Act) (W : World) : Prop where
  st : TSt w T m clk O oc now L x.2.1 x.2.2 x.1 W
  fr : ∃ (e : En) (kb : Nat), L[x.1]? = some e ∧ w.heap.size + 6 ≤ kb ∧ W.heap[kb]? = some (.cells #[.int .i64 e.k.f, .int .i64 e.k.t, .int .i64 e.k.p, .int .i64 e.k.i] 79) ∧
    a = { tmps := #[.pointer (some ⟨T, 0, none⟩), .int .i64 now, .pointer (some ⟨w.heap.size, 0, none⟩), .pointer (some ⟨w.heap.size + 1, 0, none⟩), .slice none 0 0, .pointer (some ⟨w.heap.size + 2, 0, none⟩), .pointer (some ⟨kb, 0, none⟩), .pointer (some ⟨e.hb, 0, none⟩), .pointer (some ⟨T, 0, none⟩), .bool false, .pointer (some ⟨T, 0, none⟩), .func (Fn.func 64) #[] #[.pointer (some ⟨w.heap.size + 3, 0, none⟩)], .agg #[.int .i64 e.k.f, .int .i64 e.k.t, .int .i64 e.k.p, .int .i64 e.k.i], .pointer (some ⟨e.hb, 0, none⟩), undef, undef, undef, undef, undef, undef, undef, undef, undef, undef, undef, undef, undef, undef, undef, undef, undef, undef, undef, undef, undef, undef, undef, undef, undef, undef, undef, undef, undef, undef, undef, undef], defers := [] }
theorem infoPkA : (Try.prog.info? 30).map (fun i => (i.zero, i.size, i.bytes)) = some (some (.agg #[.int .i64 0, .int .i64 0, .int .i64 0, .int .i64 0, .int .i64 0, .bool false, .bool false, .int .i64 0, .string ⟨#[]⟩]), 9, 72) := by kernel_rfl
set_option maxHeartbeats 8000000 in
theorem tick_any (T m : Nat) (es : Array MapEntry) (clk : Nat) (O : Option Addr) (oc : Nat) (L : List En) (now : Int) (w : World) (h : Tab w T m es clk O oc L) (hL : L.length ≤ 1000) (hnow : -9223372036854775808 ≤ now ∧ now ≤ 9223372036854775807) (hst : ∀ e ∈ L, -9223372036854775808 ≤ e.H.start ∧ e.H.start ≤ 9223372036854775807) :
    Calls Try.prog 19 #[.pointer (some ⟨T, 0, none⟩), .int .i64 now] w (TickPost w T m clk O oc now L) := by
  have hT0 : ∀ q, TOwn T m O L q → q < w.heap.size := fun q hq => h.lt hq
  have H1 := Lib.hid (alloc_new w (.cells #[.pointer (some ⟨T, 0, none⟩)] 25))
  have H2 := Lib.hid (alloc_new' (w.alloc (.cells #[.pointer (some ⟨T, 0, none⟩)] 25)) (.cells #[.int .i64 now] 3) (w.heap.size + 1) (by simp))
  have H3 := Lib.hid (alloc_new' ((w.alloc (.cells #[.pointer (some ⟨T, 0, none⟩)] 25)).alloc (.cells #[.int .i64 now] 3)) (.cells #[.slice none 0 0] 37) (w.heap.size + 2) (by simp))
  have H4 := Lib.hid (alloc_new' (((w.alloc (.cells #[.pointer (some ⟨T, 0, none⟩)] 25)).alloc (.cells #[.int .i64 now] 3)).alloc (.cells #[.slice none 0 0] 37)) (.cells #[.pointer (some ⟨T, 0, none⟩)] 25) (w.heap.size + 3) (by simp))
  have H1 := Lib.hid (block_alloc (block_alloc (block_alloc H1.out (.cells #[.int .i64 now] 3)) (.cells #[.slice none 0 0] 37)) (.cells #[.pointer (some ⟨T, 0, none⟩)] 25))
  have H2 := Lib.hid (block_alloc (block_alloc H2.out (.cells #[.slice none 0 0] 37)) (.cells #[.pointer (some ⟨T, 0, none⟩)] 25))
  have H3 := Lib.hid (block_alloc H3.out (.cells #[.pointer (some ⟨T, 0, none⟩)] 25))
  have HB := Lib.hid (below_alloc (o := .cells #[.pointer (some ⟨T, 0, none⟩)] 25) (below_alloc (o := .cells #[.slice none 0 0] 37) (below_alloc (o := .cells #[.int .i64 now] 3) (below_alloc (o := .cells #[.pointer (some ⟨T, 0, none⟩)] 25) (Below.refl w.heap.size w)))))
  have hsz : ((((w.alloc (.cells #[.pointer (some ⟨T, 0, none⟩)] 25)).alloc (.cells #[.int .i64 now] 3)).alloc (.cells #[.slice none 0 0] 37)).alloc (.cells #[.pointer (some ⟨T, 0, none⟩)] 25)).heap.size = w.heap.size + 4 := by simp
  have HT := Lib.hid h; clear h
  have HSZ := Lib.hid hsz; clear hsz
  have HNOW := Lib.hid hnow; have HST := Lib.hid hst; clear hnow hst
  refine (callsIn_wide (n := 9)).1 ?_
  refine callsIn_of_wp_marks Try.func19 rfl trivial ?_ rfl
  simp only [Try.ntmps19, List.size_toArray, List.length_cons, List.length_nil, Nat.reduceAdd, Nat.reduceSub, Array.replicate_succ, Array.replicate_zero, List.push_toArray, List.append_toArray, List.nil_append, List.cons_append]
  refine wpIn_wide.2 ?_
  go_wp2_with (go_at_call 45; refine (inOrder_any T _).mono ?_; rintro e w' ⟨rfl, rfl⟩)
  generalize (((w.alloc (.cells #[.pointer (some ⟨T, 0, none⟩)] 25)).alloc (.cells #[.int .i64 now] 3)).alloc (.cells #[.slice none 0 0] 37)).alloc (.cells #[.pointer (some ⟨T, 0, none⟩)] 25) = W0 at *
  have hsz := HSZ.out
  refine (wpIn_wide (n := 9)).1 ?_
  refine wpIn_rangeFunc_at (ι := Nat × Nat × Obj) (F := Fence.wide) rfl (by omega) (gf := 64) (lb := #[.pointer (some ⟨w.heap.size + 3, 0, none⟩)]) rfl trivial (enters_of Try.func64 (by kernel_rfl) rfl)
    (fun x => argK L x.1) (fun x => rfl) (fun W => Below W0.heap.size W0 W ∧ w.heap.size + 6 ≤ W.heap.size)
    (fun x W => ∃ e, L[x.1]? = some e ∧ TSt w T m clk O oc now L x.2.1 x.2.2 x.1 W) (fun x W => TSt w T m clk O oc now L x.2.1 x.2.2 (x.1 + 1) W) (fun _ _ => False)
    (fun W => ∃ f o, TSt w T m clk O oc now L f o L.length W)
    (fun o o' => ⟨((Below.refl _ _).alloc (Nat.le_refl _) o).alloc (by simp) o', by simp; omega⟩) (fun x W o hx => by rw [hsz]; exact hx.put hT0 o) (fun c W o hx => hx) (fun W o hx => by obtain ⟨f, o', hx⟩ := hx; rw [hsz]; exact ⟨f, o', hx.put hT0 o⟩)
    (fun l r W hl h0 hk hY => ?iter) (TJA w T m clk O oc now L) (fun x a W o hx => ?ja) ?assign ?body ?done ?stop
  case ja =>
    rw [hsz]
    obtain ⟨e, kb, h1, h2, h3, h4⟩ := hx.fr
    exact ⟨hx.st.put hT0 o, e, kb, h1, h2, (World.putObj_heap_other (by omega)).trans h3, h4⟩
  case iter =>
    have hbase : ∀ W1 f o, Below W0.heap.size W0 W1 → w.heap.size + 6 ≤ W1.heap.size → W1.heap[f]? = some o → (w.heap.size + 4 ≤ f ∧ f ≠ w.heap.size + 5) → TSt w T m clk O oc now L f o 0 W1 := fun W1 f o hb hz ho hf => by
      have hb0 : Below w.heap.size w W1 := below_call HB.out hb
      refine ⟨⟨es, HT.out.below hb0⟩, Chg.of_below hb0, ⟨bblock hb H1.out, bblock hb H2.out, bblock hb H4.out⟩, ⟨none, 0, rfl, bblock hb H3.out, ⟨rfl, .inl ⟨rfl, rfl⟩⟩, fun a q => by cases q⟩, ho, hz, hf⟩
    exact inOrder1_wide 8 (by omega) T (w.heap.size + 3) l r L hL (fun W => Below W0.heap.size W0 W ∧ w.heap.size + 6 ≤ W.heap.size) (fun f o i W => TSt w T m clk O oc now L f o i W) (fun _ _ => False)
      (fun W1 h1 => ⟨bblock h1.1 H4.out, m, es, clk, O, oc, HT.out.below (below_call HB.out h1.1)⟩)
      (fun W1 W2 f o h1 hb hf ho => hbase W2 f o (below_call h1.1 hb) (Nat.le_trans h1.2 hb.size) ho (by have := h1.2; omega))
      (fun W1 W2 h1 hb he => by
        have hlt : w.heap.size + 4 < W2.heap.size := by have := h1.2; have := hb.size; omega
        exact ⟨w.heap.size + 4, _, hbase W2 _ _ (below_call h1.1 hb) (Nat.le_trans h1.2 hb.size) (Array.getElem?_eq_getElem hlt) (by omega)⟩)
      (fun f o i W1 W2 h1 hb => h1.below hT0 hb)
      (fun f o i e W1 h1 he => ⟨h1.fo, h1.box.ix, m, h1.tab.choose, clk, O, oc, keepT now (L.take i) ++ L.drop i, (keepT now (L.take i)).length, h1.tab.choose_spec, by
        rw [List.getElem?_append_right (Nat.le_refl _), Nat.sub_self, List.getElem?_drop, Nat.add_zero]; exact he⟩)
      (fun f o i e W1 he h1 hk1 => by
        have := hY (i, f, o) W1 ⟨e, he, h1⟩ hk1
        rw [argK_of he] at this
        exact this)
      W h0 hk
  case assign =>
    intro l x W hx
    obtain ⟨e, he, hs⟩ := hx
    obtain ⟨i, f, o⟩ := x
    dsimp only at he hs
    rw [argK_of he]
    unfold kArgs
    gi_wp2
    have hz := hs.big
    have hbW := (Below.refl W.heap.size W).alloc (Nat.le_refl _) (.cells #[.int .i64 e.k.f, .int .i64 e.k.t, .int .i64 e.k.p, .int .i64 e.k.i] 79)
    exact ⟨⟨hbW.block _ (by omega), hbW.block _ (by omega)⟩, hs.below hT0 hbW, e, W.heap.size, he, hz, alloc_new _ _, rfl⟩
  case body =>
    intro l x a W hx
    obtain ⟨i, f, o⟩ := x
    obtain ⟨e, kb, he, hkb, hK, rfl⟩ := hx.fr
    have HS := Lib.hid hx.st
    have HE := Lib.hid he
    have HK := Lib.hid hK
    clear hx hK he
    dsimp only at HS HE
    obtain ⟨es1, hT⟩ := HS.out.tab
    have hj : (keepT now (L.take i) ++ L.drop i)[(keepT now (L.take i)).length]? = some e := by
      rw [List.getElem?_append_right (Nat.le_refl _), Nat.sub_self, List.getElem?_drop, Nat.add_zero]; exact HE.out
    have HT1 := Lib.hid hT
    have HJ := Lib.hid hj
    have Hh := Lib.hid (hT.half e (List.mem_of_getElem? hj)).1.1
    clear hT hj
    have qh0 := (cell_of_block (k := 0) Hh.out rfl).1
    have qh7 := (cell_of_block (k := 7) Hh.out rfl).1
    have q0 := (cell_of_box HS.out.box.bx).1
    have q1 := (cell_of_block (k := 0) HS.out.box.nb rfl).1
    have qk0 := (cell_of_block (k := 0) HK.out rfl).1; have qk1 := (cell_of_block (k := 1) HK.out rfl).1; have qk2 := (cell_of_block (k := 2) HK.out rfl).1; have qk3 := (cell_of_block (k := 3) HK.out rfl).1
    have hst := HST.out e (List.mem_of_getElem? HE.out)
    have hnw := HNOW.out
    by_cases h1 : now < e.H.start
    · have d1 : decide (now < e.H.start) = true := decide_eq_true h1
      have ho : oldB now e.H = false := by unfold oldB; rw [decide_eq_false]; omega
      gi_wp2_with fail
      refine wpIn_round_quiet (by kernel_rfl) (by kernel_rfl) (by kernel_rfl) ?_
      repeat (first | go_big_quiet_step (fail) | quiet_step (fail))
      refine wpQuiet_nil ?_
      intro _ hw'
      obtain ⟨nq, hw''⟩ := hw'
      subst hw''
      gi_wp2
      exact ⟨⟨rfl, rfl⟩, (HS.out.mid.below (below_drewN (Below.refl _ _) _)).st (rest_keep HE.out ho).1.symm (rest_keep HE.out ho).2.symm⟩
    · have d1 : decide (now < e.H.start) = false := decide_eq_false h1
      have d2 := age_eq now e.H.start hnw hst (by omega)
      by_cases h2 : now - e.H.start < 30
      · have d3 : decide (IntKind.u64.wrap (IntKind.u64.wrap now - IntKind.u64.wrap e.H.start) < 30) = true := by rw [d2]; exact decide_eq_true h2
        have ho : oldB now e.H = false := by unfold oldB; rw [decide_eq_false]; omega
        clear d2
        gi_wp2_with fail
        refine wpIn_round_quiet (by kernel_rfl) (by kernel_rfl) (by kernel_rfl) ?_
        repeat (first | go_big_quiet_step (fail) | quiet_step (fail))
        refine wpQuiet_nil ?_
        intro _ hw'
        obtain ⟨nq, hw''⟩ := hw'
        subst hw''
        gi_wp2
        exact ⟨⟨rfl, rfl⟩, (HS.out.mid.below (below_drewN (Below.refl _ _) _)).st (rest_keep HE.out ho).1.symm (rest_keep HE.out ho).2.symm⟩
      · have d3 : decide (IntKind.u64.wrap (IntKind.u64.wrap now - IntKind.u64.wrap e.H.start) < 30) = false := by rw [d2]; exact decide_eq_false h2
        have ho : oldB now e.H = true := by unfold oldB; rw [decide_eq_true]; omega
        clear d2
        gi_wp2_with fail
        refine wpIn_round_quiet (by kernel_rfl) (by kernel_rfl) (by kernel_rfl) ?_
        repeat (first | go_big_quiet_step (fail) | quiet_step (fail))
        refine wpQuiet_nil ?_
        intro _ hw'
        obtain ⟨nq, hw''⟩ := hw'
        subst hw''
        have HM := Lib.hid (HS.out.mid.below (below_drewN (Below.refl _ _) nq))
        have HTD := Lib.hid (HT1.out.below (below_drewN (Below.refl _ _) nq))
        have HHD := Lib.hid (bblock (below_drewN (Below.refl _ _) nq) Hh.out)
        have hlk : (keepT now (L.take i) ++ L.drop i).length ≤ 1000 := Nat.le_trans rest_le hL
        have HWW : Hid ((W.drewN nq).heap = W.heap) := Lib.hid rfl
        have HKD := Lib.hid (bblock (below_drewN (Below.refl _ _) nq) HK.out)
        clear qh0 qh7 q0 q1 qk0 qk1 qk2 qk3 d1 d3
        generalize W.drewN nq = W2 at *
        have q0 := (cell_of_box HM.out.box.bx).1
        have qk0 := (cell_of_block (k := 0) HKD.out rfl).1; have qk1 := (cell_of_block (k := 1) HKD.out rfl).1; have qk2 := (cell_of_block (k := 2) HKD.out rfl).1; have qk3 := (cell_of_block (k := 3) HKD.out rfl).1
        gi_wp2_with fail
        refine ⟨trivial, CallsIn.inRound l ?_⟩
        refine (callsIn_wide.2 (remove_any T m es1 clk O oc _ _ e HJ.out _ HTD.out hlk)).mono ?_
        rintro x w4 ⟨rfl, es4, ht4, hc4⟩
        have hown := HTD.out.eo e (List.mem_of_getElem? HJ.out) e.hb (.inl rfl)
        have hnS : ¬ S3 T m O e.hb := by
          rintro (q | q | ⟨a, q1, q2⟩)
          · exact hown.1 q
          · exact hown.2.1 q
          · exact hown.2.2 a q1 q2
        have HM4 := Lib.hid (HM.out.rem hT0 hc4 ⟨es4, ht4⟩)
        have HH4 := Lib.hid ((hc4.block e.hb (blk_lt HHD.out) hnS).trans HHD.out)
        have HL : Hid (∀ q, w.heap.size ≤ q → q < W2.heap.size → w4.heap[q]? = W2.heap[q]?) := Lib.hid fun q h1 h2 => hc4.block q h2 (fun r => by
          have := hT0 q (by
            rcases r with r | r | r
            · exact .inl r
            · exact .inr (.inl r)
            · exact .inr (.inr (.inl r)))
          omega)
        clear q0 qk0 qk1 qk2 qk3 hc4 ht4 hown hnS
        have qh7 : w4.cell? ⟨e.hb, 7, none⟩ = some (.bool e.H.started) := (cell_of_block (k := 7) HH4.out rfl).1
        cases hs : e.H.started with
        | false =>
          rw [hs] at qh7
          have HS1 := Lib.hid hs; clear hs
          gi_wp2
          refine ⟨⟨(HL.out _ (by omega) ?_).trans (by rw [HWW.out]), (HL.out _ (by omega) ?_).trans (by rw [HWW.out])⟩, HM4.out.st (rest_drop HE.out ho) (told_no HE.out HS1.out).symm⟩
          all_goals (have := HM.out.big; omega)
        | true =>
          rw [hs] at qh7
          have HS1 := Lib.hid hs; clear hs
          obtain ⟨A, c, -, hbx, hown, hfar⟩ := HM4.out.out
          have HOW := Lib.hid hown; have HFA := Lib.hid hfar; have HBX := Lib.hid hbx; clear hbx hown hfar
          have hN : (toldT now (L.take i)).length ≤ 1000 := Nat.le_trans told_le hL
          obtain ⟨N, hNe⟩ : ∃ N, (toldT now (L.take i)).length = N := ⟨_, rfl⟩
          have HNE := Lib.hid hNe
          rw [hNe] at HOW HBX hN
          clear hNe
          have gb := (cell_of_box HBX.out).1
          have g0 := (cell_of_block (k := 8) HH4.out rfl).1
          have g1 := (cell_of_block (k := 9) HH4.out rfl).1
          have g2 := (cell_of_block (k := 10) HH4.out rfl).1
          have g3 := (cell_of_block (k := 11) HH4.out rfl).1
          have g4 := (cell_of_block (k := 12) HH4.out rfl).1
          have g5 := (cell_of_block (k := 13) HH4.out rfl).1
          have g6 := (cell_of_block (k := 14) HH4.out rfl).1
          have g7 := (cell_of_block (k := 15) HH4.out rfl).1
          have g8 := (cell_of_block (k := 16) HH4.out rfl).1
          gi_wp2_with fail
          refine wpIn_round_held (S := (fun w' : World => w'.cell? ⟨e.hb, 8, none⟩ = some (.int .i64 e.H.first.f) ∧ w'.cell? ⟨e.hb, 9, none⟩ = some (.int .i64 e.H.first.t) ∧ w'.cell? ⟨e.hb, 10, none⟩ = some (.int .i64 e.H.first.pr) ∧ w'.cell? ⟨e.hb, 11, none⟩ = some (.int .i64 e.H.first.ttl) ∧ w'.cell? ⟨e.hb, 12, none⟩ = some (.int .i64 e.H.first.id) ∧ w'.cell? ⟨e.hb, 13, none⟩ = some (.bool e.H.first.df) ∧ w'.cell? ⟨e.hb, 14, none⟩ = some (.bool e.H.first.mf) ∧ w'.cell? ⟨e.hb, 15, none⟩ = some (.int .i64 e.H.first.off) ∧ w'.cell? ⟨e.hb, 16, none⟩ = some (.string e.H.first.s))) (by kernel_rfl) (by kernel_rfl) ⟨g0, g1, g2, g3, g4, g5, g6, g7, g8⟩ ?_
          intro hS
          have HBX5 := Lib.hid (block_alloc HBX.out (.cells #[.int .i64 e.H.first.f, .int .i64 e.H.first.t, .int .i64 e.H.first.pr, .int .i64 e.H.first.ttl, .int .i64 e.H.first.id, .bool e.H.first.df, .bool e.H.first.mf, .int .i64 e.H.first.off, .string e.H.first.s] 30))
          have HH5 := Lib.hid (block_alloc HH4.out (.cells #[.int .i64 e.H.first.f, .int .i64 e.H.first.t, .int .i64 e.H.first.pr, .int .i64 e.H.first.ttl, .int .i64 e.H.first.id, .bool e.H.first.df, .bool e.H.first.mf, .int .i64 e.H.first.off, .string e.H.first.s] 30))
          have HOB : Hid (∀ k, Value.ownBlock (.slice A N c) = some k → w.heap.size + 6 ≤ k ∧ k ≠ f) := Lib.hid fun k ek => by
            cases A with
            | none => cases ek
            | some a =>
              have q1 := HFA.out a rfl
              have q2 : a.block = k := by simpa [Value.ownBlock] using ek
              rw [← q2]; exact q1
          have hbT := hT0 e.hb (.inr (.inr (.inr ⟨e, List.mem_of_getElem? HE.out, .inl rfl⟩)))
          have hbig := HM4.out.big
          obtain ⟨i0, hi, hz0, hz1, hz2⟩ := info_parts infoPkA
          have gb5 := (cell_of_box HBX5.out).1
          refine wpAnyH_take (i := 1) (v := ?va1) rfl (by kernel_rfl) (by kernel_rfl) (by kernel_rfl) (fun _ _ _ h => h) (Or.inl ⟨by rfl, ?hya1⟩) (by exact hS) ?rea1
          case hya1 => (intro ww hSw; (try dsimp only at hSw); go_simp; first | done | with_reducible rfl)
          try simp only [Act.put]
          refine wpAnyH_take (i := 2) (v := ?va2) rfl (by kernel_rfl) (by kernel_rfl) (by kernel_rfl) (fun _ _ _ h => h) (Or.inl ⟨by rfl, ?hya2⟩) (by exact hS) ?rea2
          case hya2 => (intro ww hSw; (try dsimp only at hSw); go_simp; first | done | with_reducible rfl)
          try simp only [Act.put]
          refine wpAnyH_take (i := 3) (v := ?va3) rfl (by kernel_rfl) (by kernel_rfl) (by kernel_rfl) (fun _ _ _ h => h) (Or.inl ⟨by rfl, ?hya3⟩) (by exact hS) ?rea3
          case hya3 => (intro ww hSw; (try dsimp only at hSw); go_simp; first | done | with_reducible rfl)
          try simp only [Act.put]
          refine wpAnyH_take (i := 4) (v := ?va4) rfl (by kernel_rfl) (by kernel_rfl) (by kernel_rfl) (fun _ _ _ h => h) (Or.inl ⟨by rfl, ?hya4⟩) (by exact hS) ?rea4
          case hya4 => (intro ww hSw; (try dsimp only at hSw); go_simp; first | done | with_reducible rfl)
          try simp only [Act.put]
          clear g0 g1 g2 g3 g4 g5 g6 g7 g8 qh7
          refine wpAnyH_ready (rs := [0, 5]) (by kernel_rfl) (by simp) ?_
          refine AllReadyH.cons rfl (fun Kx hKx => ?stx) ?mox
          case stx =>
            go_simp
            refine hKx.out _ _ ⟨(cell_of_block (k := 8) HH4.out rfl).1, (cell_of_block (k := 9) HH4.out rfl).1, (cell_of_block (k := 10) HH4.out rfl).1, (cell_of_block (k := 11) HH4.out rfl).1, (cell_of_block (k := 12) HH4.out rfl).1, (cell_of_block (k := 13) HH4.out rfl).1, (cell_of_block (k := 14) HH4.out rfl).1, (cell_of_block (k := 15) HH4.out rfl).1, (cell_of_block (k := 16) HH4.out rfl).1⟩ (fun _ => ?_)
            refine wpAnyH_ready (rs := [5]) (by kernel_rfl) (by simp) ?_
            refine AllReadyH.cons rfl (fun Kxb hKxb => ?stxb) AllReadyH.nil
            go_simp
            refine hKxb.out _ _ ⟨(cell_of_block (k := 8) HH5.out rfl).1, (cell_of_block (k := 9) HH5.out rfl).1, (cell_of_block (k := 10) HH5.out rfl).1, (cell_of_block (k := 11) HH5.out rfl).1, (cell_of_block (k := 12) HH5.out rfl).1, (cell_of_block (k := 13) HH5.out rfl).1, (cell_of_block (k := 14) HH5.out rfl).1, (cell_of_block (k := 15) HH5.out rfl).1, (cell_of_block (k := 16) HH5.out rfl).1⟩ (fun _ => ?_)
            refine wpAnyH_ready (rs := [6]) (by kernel_rfl) (by simp) ?_
            refine AllReadyH.cons rfl (fun Kyx hKyx => ?styx) AllReadyH.nil
            refine step_append_lies _ (by rfl) _ _ _ (by rfl) w.heap.size 30 i0 (.agg #[.int .i64 0, .int .i64 0, .int .i64 0, .int .i64 0, .int .i64 0, .bool false, .bool false, .int .i64 0, .string ⟨#[]⟩]) 9 72 Try.underlying37 hi hz0 hz1 hz2 rfl (by decide) (.slice A N c) N _ (by rfl) (HOW.out.alloc _) ⟨w4.heap.size, 0, none⟩ 1 1 [.int .i64 e.H.first.f, .int .i64 e.H.first.t, .int .i64 e.H.first.pr, .int .i64 e.H.first.ttl, .int .i64 e.H.first.id, .bool e.H.first.df, .bool e.H.first.mf, .int .i64 e.H.first.off, .string e.H.first.s] (by rfl) rfl (World.news_of_block (heap_alloc_new w4 _)) (by simp [Value.oneCell']) (by omega) (by unfold maxLen; omega) (by omega) (by simp; omega) (w4.heap.size + 1) (by simp) ?_
            intro g cap x5 hown5 hgrow5 hat5 hlt5
            have HBX6 := Lib.hid ((hgrow5.block _ (blk_lt HBX5.out) (fun q => by have := HOB.out _ q.symm; omega)).trans HBX5.out)
            have HH6 := Lib.hid ((hgrow5.block _ (blk_lt HH5.out) (fun q => by have := HOB.out _ q.symm; omega)).trans HH5.out)
            refine hKyx.out _ _ ⟨(cell_of_block (k := 8) HH6.out rfl).1, (cell_of_block (k := 9) HH6.out rfl).1, (cell_of_block (k := 10) HH6.out rfl).1, (cell_of_block (k := 11) HH6.out rfl).1, (cell_of_block (k := 12) HH6.out rfl).1, (cell_of_block (k := 13) HH6.out rfl).1, (cell_of_block (k := 14) HH6.out rfl).1, (cell_of_block (k := 15) HH6.out rfl).1, (cell_of_block (k := 16) HH6.out rfl).1⟩ (fun _ => ?_)
            refine wpAnyH_ready (rs := [7]) (by kernel_rfl) (by simp) ?_
            refine AllReadyH.cons rfl (fun Kzx hKzx => ?stzx) AllReadyH.nil
            have q6 := (cell_of_box HBX6.out).1; have z6 := (cell_of_box HBX6.out).2
            have Hown5 := Lib.hid hown5; have Hg5 := Lib.hid hgrow5; have Hat5 := Lib.hid hat5
            clear hown5 hgrow5 hat5
            go_simp
            have HM5 := Lib.hid ((HM4.out.below ((Below.refl _ _).alloc (Nat.le_refl _) (.cells #[.int .i64 e.H.first.f, .int .i64 e.H.first.t, .int .i64 e.H.first.pr, .int .i64 e.H.first.ttl, .int .i64 e.H.first.id, .bool e.H.first.df, .bool e.H.first.mf, .int .i64 e.H.first.off, .string e.H.first.s] 30)).drew).app hT0 HFA.out (by rw [HNE.out]; exact Hown5.out) (by rw [HNE.out]; exact Hg5.out) (by rw [HNE.out]; exact Hat5.out.imp id (fun q => by simp; omega)))
            rw [HNE.out] at HM5
            have HH7 := Lib.hid (block_set_other (a := ⟨w.heap.size + 2, 0, none⟩) (u := .slice (some ⟨g, 0, none⟩) (N + 1) cap) HH6.out (by show w.heap.size + 2 ≠ e.hb; omega))
            have HEQ : Hid (∀ q, q = w.heap.size + 4 ∨ q = w.heap.size + 5 → (World.setCell x5 ⟨w.heap.size + 2, 0, none⟩ (.slice (some ⟨g, 0, none⟩) (N + 1) cap)).heap[q]? = W.heap[q]?) := Lib.hid fun q hq => by
              rw [Below.heap_setCell _ _ _ _ (by show q ≠ w.heap.size + 2; omega)]
              refine (Hg5.out.block q (by simp; omega) (fun r => by have := HOB.out _ r.symm; omega)).trans ?_
              refine (Below.heap_alloc w4 _ q (by omega)).trans ?_
              refine (HL.out q (by omega) (by have := HM.out.big; omega)).trans (by rw [HWW.out])
            clear q6 z6
            generalize World.setCell x5 ⟨w.heap.size + 2, 0, none⟩ (.slice (some ⟨g, 0, none⟩) (N + 1) cap) = x6 at *
            refine hKzx.out _ _ ⟨(cell_of_block (k := 8) HH7.out rfl).1, (cell_of_block (k := 9) HH7.out rfl).1, (cell_of_block (k := 10) HH7.out rfl).1, (cell_of_block (k := 11) HH7.out rfl).1, (cell_of_block (k := 12) HH7.out rfl).1, (cell_of_block (k := 13) HH7.out rfl).1, (cell_of_block (k := 14) HH7.out rfl).1, (cell_of_block (k := 15) HH7.out rfl).1, (cell_of_block (k := 16) HH7.out rfl).1⟩ (fun _ => ?_)
            refine wpAnyH_done (by kernel_rfl) ?_ _
            gi_wp2
            exact ⟨⟨HEQ.out _ (.inl (by omega)), HEQ.out _ (.inr (by omega))⟩, HM5.out.st (rest_drop HE.out ho) (told_yes HE.out ho HS1.out).symm⟩
          refine AllReadyH.cons rfl (fun Kw hKw => ?stw) AllReadyH.nil
          go_simp
          refine hKw.out _ _ ⟨(cell_of_block (k := 8) HH5.out rfl).1, (cell_of_block (k := 9) HH5.out rfl).1, (cell_of_block (k := 10) HH5.out rfl).1, (cell_of_block (k := 11) HH5.out rfl).1, (cell_of_block (k := 12) HH5.out rfl).1, (cell_of_block (k := 13) HH5.out rfl).1, (cell_of_block (k := 14) HH5.out rfl).1, (cell_of_block (k := 15) HH5.out rfl).1, (cell_of_block (k := 16) HH5.out rfl).1⟩ (fun _ => ?_)
          refine wpAnyH_ready (rs := [0]) (by kernel_rfl) (by simp) ?_
          refine AllReadyH.cons rfl (fun Kwb hKwb => ?stwb) AllReadyH.nil
          go_simp
          refine hKwb.out _ _ ⟨(cell_of_block (k := 8) HH5.out rfl).1, (cell_of_block (k := 9) HH5.out rfl).1, (cell_of_block (k := 10) HH5.out rfl).1, (cell_of_block (k := 11) HH5.out rfl).1, (cell_of_block (k := 12) HH5.out rfl).1, (cell_of_block (k := 13) HH5.out rfl).1, (cell_of_block (k := 14) HH5.out rfl).1, (cell_of_block (k := 15) HH5.out rfl).1, (cell_of_block (k := 16) HH5.out rfl).1⟩ (fun _ => ?_)
          refine wpAnyH_ready (rs := [6]) (by kernel_rfl) (by simp) ?_
          refine AllReadyH.cons rfl (fun Kyw hKyw => ?styw) AllReadyH.nil
          refine step_append_lies _ (by rfl) _ _ _ (by rfl) w.heap.size 30 i0 (.agg #[.int .i64 0, .int .i64 0, .int .i64 0, .int .i64 0, .int .i64 0, .bool false, .bool false, .int .i64 0, .string ⟨#[]⟩]) 9 72 Try.underlying37 hi hz0 hz1 hz2 rfl (by decide) (.slice A N c) N _ (by rfl) (HOW.out.alloc _) ⟨w4.heap.size, 0, none⟩ 1 1 [.int .i64 e.H.first.f, .int .i64 e.H.first.t, .int .i64 e.H.first.pr, .int .i64 e.H.first.ttl, .int .i64 e.H.first.id, .bool e.H.first.df, .bool e.H.first.mf, .int .i64 e.H.first.off, .string e.H.first.s] (by rfl) rfl (World.news_of_block (heap_alloc_new w4 _)) (by simp [Value.oneCell']) (by omega) (by unfold maxLen; omega) (by omega) (by simp; omega) (w4.heap.size + 1) (by simp) ?_
          intro g cap x5 hown5 hgrow5 hat5 hlt5
          have HBX6 := Lib.hid ((hgrow5.block _ (blk_lt HBX5.out) (fun q => by have := HOB.out _ q.symm; omega)).trans HBX5.out)
          have HH6 := Lib.hid ((hgrow5.block _ (blk_lt HH5.out) (fun q => by have := HOB.out _ q.symm; omega)).trans HH5.out)
          refine hKyw.out _ _ ⟨(cell_of_block (k := 8) HH6.out rfl).1, (cell_of_block (k := 9) HH6.out rfl).1, (cell_of_block (k := 10) HH6.out rfl).1, (cell_of_block (k := 11) HH6.out rfl).1, (cell_of_block (k := 12) HH6.out rfl).1, (cell_of_block (k := 13) HH6.out rfl).1, (cell_of_block (k := 14) HH6.out rfl).1, (cell_of_block (k := 15) HH6.out rfl).1, (cell_of_block (k := 16) HH6.out rfl).1⟩ (fun _ => ?_)
          refine wpAnyH_ready (rs := [7]) (by kernel_rfl) (by simp) ?_
          refine AllReadyH.cons rfl (fun Kzw hKzw => ?stzw) AllReadyH.nil
          have q6 := (cell_of_box HBX6.out).1; have z6 := (cell_of_box HBX6.out).2
          have Hown5 := Lib.hid hown5; have Hg5 := Lib.hid hgrow5; have Hat5 := Lib.hid hat5
          clear hown5 hgrow5 hat5
          go_simp
          have HM5 := Lib.hid ((HM4.out.below ((Below.refl _ _).alloc (Nat.le_refl _) (.cells #[.int .i64 e.H.first.f, .int .i64 e.H.first.t, .int .i64 e.H.first.pr, .int .i64 e.H.first.ttl, .int .i64 e.H.first.id, .bool e.H.first.df, .bool e.H.first.mf, .int .i64 e.H.first.off, .string e.H.first.s] 30)).drew).app hT0 HFA.out (by rw [HNE.out]; exact Hown5.out) (by rw [HNE.out]; exact Hg5.out) (by rw [HNE.out]; exact Hat5.out.imp id (fun q => by simp; omega)))
          rw [HNE.out] at HM5
          have HH7 := Lib.hid (block_set_other (a := ⟨w.heap.size + 2, 0, none⟩) (u := .slice (some ⟨g, 0, none⟩) (N + 1) cap) HH6.out (by show w.heap.size + 2 ≠ e.hb; omega))
          have HEQ : Hid (∀ q, q = w.heap.size + 4 ∨ q = w.heap.size + 5 → (World.setCell x5 ⟨w.heap.size + 2, 0, none⟩ (.slice (some ⟨g, 0, none⟩) (N + 1) cap)).heap[q]? = W.heap[q]?) := Lib.hid fun q hq => by
            rw [Below.heap_setCell _ _ _ _ (by show q ≠ w.heap.size + 2; omega)]
            refine (Hg5.out.block q (by simp; omega) (fun r => by have := HOB.out _ r.symm; omega)).trans ?_
            refine (Below.heap_alloc w4 _ q (by omega)).trans ?_
            refine (HL.out q (by omega) (by have := HM.out.big; omega)).trans (by rw [HWW.out])
          clear q6 z6
          generalize World.setCell x5 ⟨w.heap.size + 2, 0, none⟩ (.slice (some ⟨g, 0, none⟩) (N + 1) cap) = x6 at *
          refine hKzw.out _ _ ⟨(cell_of_block (k := 8) HH7.out rfl).1, (cell_of_block (k := 9) HH7.out rfl).1, (cell_of_block (k := 10) HH7.out rfl).1, (cell_of_block (k := 11) HH7.out rfl).1, (cell_of_block (k := 12) HH7.out rfl).1, (cell_of_block (k := 13) HH7.out rfl).1, (cell_of_block (k := 14) HH7.out rfl).1, (cell_of_block (k := 15) HH7.out rfl).1, (cell_of_block (k := 16) HH7.out rfl).1⟩ (fun _ => ?_)
          refine wpAnyH_done (by kernel_rfl) ?_ _
          gi_wp2
          exact ⟨⟨HEQ.out _ (.inl (by omega)), HEQ.out _ (.inr (by omega))⟩, HM5.out.st (rest_drop HE.out ho) (told_yes HE.out ho HS1.out).symm⟩
  case done =>
    rintro W ⟨f, o, hx⟩ hd
    rw [hsz] at hd
    obtain ⟨A, c, -, hbx, hown, hfar⟩ := hx.out
    obtain ⟨es9, ht⟩ := hx.tab
    have hc := hx.chg
    have e1 : keepT now (L.take L.length) ++ L.drop L.length = keepT now L := by simp
    have e2 : L.take L.length = L := by simp
    rw [e1] at ht
    rw [e2] at hbx hown
    have HT9 := Lib.hid ht; have HC9 := Lib.hid hc; have HO9 := Lib.hid hown; have HD := Lib.hid hd; have HFA := Lib.hid hfar
    have gb := (cell_of_box hbx).1
    clear hx hbx hown hd ht hc hfar e1 e2
    go_wp2_with fail
    refine ⟨by simp, .inl ⟨_, _, rfl, run_takeDeferred (by rw [hsz]; exact HD.out), ?_⟩⟩
    rw [hsz]
    have hk : ∀ q, q ≠ w.heap.size + 4 → (World.putObj W (w.heap.size + 4) (.deferred none)).heap[q]? = W.heap[q]? := fun q hq => World.putObj_heap_other hq
    refine ⟨_, results_tmp rfl _ _ _, es9, A, c, rfl, ?_, HT9.out.kept (fun q hq => hk q (by
      have := hT0 q (by
        rcases hq with r | r | r | ⟨e, he, r⟩
        · exact .inl r
        · exact .inr (.inl r)
        · exact .inr (.inr (.inl r))
        · exact .inr (.inr (.inr ⟨e, (List.mem_filter.1 he).1, r⟩)))
      omega)), HC9.out.trans (S' := fun q => q = w.heap.size + 4) ⟨rfl, rfl, rfl, by simp [World.putObj], fun q _ hq => hk q hq⟩ (fun q hq => .inr (by omega))⟩
    exact PRow.kept HO9.out (fun a ha => hk _ (by have := HFA.out a ha; omega))
  case stop => exact fun c W hx => hx.elim
end Go.Proofs.Ytmeldgnjgogacaa.Re
