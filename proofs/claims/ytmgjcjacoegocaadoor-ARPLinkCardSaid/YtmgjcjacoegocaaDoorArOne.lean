/-
  One table, made since w, that owns none of the blocks K: New, Send (while there is room), Receive, Known, Sizes at it.
-/
import Derived.Test.YtmgjcjacoegocaaDoorArRecv
import Derived.Test.YtmgjcjacoegocaaDoorArSend2
import Derived.Test.YtmgjcjacoegocaaDoorArSizes
namespace Go.Proofs.YtmgjcjacoegocaaDoor.Ar
set_option maxRecDepth 100000
open Go.RowKit Go.Proofs.YtmgjcjacoegocaaDoor.Wire

structure OneA (w : World) (T : Nat) (c : Tc) (A : AL) (K : Nat → Prop) (W : World) : Prop where
  ex : ∃ (m : Option Nat) (es : Array MapEntry) (clk : Nat) (L : List En), Tab W T m es clk c L ∧ absL L = A ∧ ∀ q, TOwn T m L q → w.heap.size ≤ q ∧ ¬ K q
  bel : Below w.heap.size w W
/-- the blocks K stand -/
def Kept (K : Nat → Prop) (W W' : World) : Prop := W.heap.size ≤ W'.heap.size ∧ ∀ q, K q → q < W.heap.size → W'.heap[q]? = W.heap[q]?
theorem Kept.below {K : Nat → Prop} {W W' : World} (h : Below W.heap.size W W') : Kept K W W' := ⟨h.size, fun q _ hq => h.block q hq⟩
/-- how many packets wait in all -/
def sumA (A : AL) : Int := (A.map fun x => x.2.n).foldr (· + ·) 0
theorem sumC_abs (L : List En) : sumC L = sumA (absL L) := by
  unfold sumC sumA absL
  rw [List.map_map]; rfl
section
variable {w W W' : World} {T : Nat} {c : Tc} {A : AL} {K : Nat → Prop}
theorem OneA.below (h : OneA w T c A K W) (hb : Below W.heap.size W W') : OneA w T c A K W' := by
  obtain ⟨m, es, clk, L, h1, h2, h3⟩ := h.ex
  exact ⟨⟨m, es, clk, L, h1.below hb, h2, h3⟩, below_call h.bel hb⟩
theorem OneA.more (h : OneA w T c A K W) {K' : Nat → Prop} (hk : ∀ q, K' q → K q ∨ W.heap.size ≤ q) : OneA w T c A K' W := by
  obtain ⟨m, es, clk, L, h1, h2, h3⟩ := h.ex
  refine ⟨⟨m, es, clk, L, h1, h2, fun q hq => ⟨(h3 q hq).1, fun r => ?_⟩⟩, h.bel⟩
  rcases hk q r with s | s
  · exact (h3 q hq).2 s
  · have := h1.lt hq; omega
theorem OneA.ofNew (hb : Below w.heap.size w W) (own mac : Int) : OneA w W.heap.size ⟨own, mac, false, 0⟩ [] (fun q => q < W.heap.size) (W.alloc (.cells #[.int .i64 own, .int .i64 mac, .map none, .bool false, .int .i64 0] 102)) := by
  refine ⟨⟨none, #[], 0, [], ⟨alloc_new W _, .inl ⟨rfl, rfl⟩, fun h => absurd rfl h, List.nodup_nil, fun h => absurd rfl h, fun e he => by simp at he, fun e he => by simp at he, List.Pairwise.nil⟩, rfl, ?_⟩, below_alloc hb⟩
  rintro q (rfl | q1 | ⟨e, he, -⟩)
  · exact ⟨hb.size, by omega⟩
  · cases q1
  · simp at he
theorem OneA.tab_lt (h : OneA w T c A K W) : T < W.heap.size ∧ w.heap.size ≤ T := by
  obtain ⟨m, es, clk, L, h1, h2, h3⟩ := h.ex
  exact ⟨h1.lt (.inl rfl), (h3 T (.inl rfl)).1⟩
theorem OneA.after {S : Nat → Prop} {m' : Option Nat} {es' : Array MapEntry} {clk' : Nat} {c' : Tc} {L' : List En} {K' : Nat → Prop} (h : OneA w T c A K W) (ht : Tab W' T m' es' clk' c' L') (hS : ∀ q, S q → w.heap.size ≤ q ∧ ¬ K q) (hc : Chg S W W') (hn : ∀ q, TOwn T m' L' q → (S q ∨ W.heap.size ≤ q) ∧ ¬ K' q) :
    OneA w T c' (absL L') (fun q => (K q ∧ q < W.heap.size) ∨ K' q) W' ∧ Kept K W W' := by
  have hz := h.bel.size
  refine ⟨⟨⟨m', es', clk', L', ht, rfl, fun q hq => ?_⟩, ?_⟩, hc.size, fun q hk hq => hc.block q hq (fun r => (hS q r).2 hk)⟩
  · obtain ⟨q1, q2⟩ := hn q hq
    rcases q1 with r | r
    · exact ⟨(hS q r).1, fun s => s.elim (fun s => (hS q r).2 s.1) q2⟩
    · exact ⟨by omega, fun s => s.elim (fun s => by omega) q2⟩
  · exact ⟨hc.os.trans h.bel.os, hc.tape.trans h.bel.tape, hc.output.trans h.bel.output, Nat.le_trans hz hc.size, fun k hk => (hc.block k (by omega) (fun r => by have := (hS k r).1; omega)).trans (h.bel.block k hk)⟩
theorem OneA.recv (h : OneA w T c A K W) (now op f fm t tm : Int) (c' : Tc) (A' : AL) (out : List Am) (held : List Hp) (he : recvA c A now ⟨op, f, fm, t, tm⟩ = (c', A', out, held)) (h1 : In64 now) (h2 : In64 c.at_) :
    Calls Tryd.prog 20 #[.pointer (some ⟨T, 0, none⟩), .int .i64 now, .agg #[.int .i64 op, .int .i64 f, .int .i64 fm, .int .i64 t, .int .i64 tm]] W fun x W' =>
      ∃ (B : Option Addr) (k : Nat) (D : Option Addr) (d : Nat), x = .returned (.tuple #[.slice B out.length k, .slice D held.length d]) ∧ MRow W' W.heap.size B k out ∧ HRow W' W.heap.size D d held ∧ OneA w T c' A' (fun q => (K q ∧ q < W.heap.size) ∨ BK B q ∨ BK D q) W' ∧ Kept K W W' := by
  obtain ⟨m, es, clk, L, ht, ha, h3⟩ := h.ex
  refine (receive_any T m es clk c L now op f fm t tm W ht h1 h2).mono ?_
  intro x W' hx
  rw [ha, he] at hx
  obtain ⟨B, k, D, d, m', es', clk', L', rfl, hm, hh, ht', ha', hc, hn⟩ := hx
  obtain ⟨q1, q2⟩ := h.after (K' := fun q => BK B q ∨ BK D q) ht' h3 hc (fun q hq => ⟨(hn q hq).1, fun s => s.elim (hn q hq).2.1 (hn q hq).2.2⟩)
  rw [ha'] at q1
  exact ⟨B, k, D, d, rfl, hm, hh, q1, q2⟩
theorem OneA.send (h : OneA w T c A K W) (now to_ : Int) (s : ByteArray) (A' : AL) (mac : Int) (out : List Am) (err : Int) (he : sendA c A now to_ s = (A', mac, out, err)) (hs : s.size ≤ 9223372036854775807) (hn : In64 now) (hroom : A.length < 16) :
    Calls Tryd.prog 23 #[.pointer (some ⟨T, 0, none⟩), .int .i64 now, .int .i64 to_, .string s] W fun x W' =>
      ∃ (B : Option Addr) (k : Nat), x = .returned (.tuple #[.int .i64 mac, .slice B out.length k, .int .i64 err]) ∧ MRow W' W.heap.size B k out ∧ OneA w T c A' (fun q => (K q ∧ q < W.heap.size) ∨ BK B q) W' ∧ Kept K W W' := by
  obtain ⟨m, es, clk, L, ht, ha, h3⟩ := h.ex
  have hL : L.length < 16 := by have := congrArg List.length ha; unfold absL at this; simp at this; omega
  have key : Calls Tryd.prog 23 #[.pointer (some ⟨T, 0, none⟩), .int .i64 now, .int .i64 to_, .string s] W fun e w' => SendP T m L c W (sendA c (absL L) now to_ s) e w' := by
    unfold sendA
    by_cases hb : uniB to_ = false ∨ to_ = c.own ∨ 1024 < s.size
    · rw [if_pos hb]
      refine (send_bad T m es clk c L now to_ s W ht hs hb).mono ?_
      rintro x W' ⟨rfl, rfl⟩
      exact ⟨none, 0, m, es, clk, L, rfl, SRow.nil _ _ _ _ _, ht, rfl, Chg.refl _ _, fun q hq => ⟨.inl hq, bk_none q⟩⟩
    · rw [if_neg hb]
      by_cases hk : to_ ∈ L.map (·.k)
      · obtain ⟨x, hx, hxk⟩ := List.mem_map.1 hk
        obtain ⟨j, hj⟩ := List.getElem?_of_mem hx
        obtain ⟨k, v, eb, Hb, hc⟩ := x
        dsimp only at hxk
        subst hxk
        have hlk := look_at ht.nod hj
        dsimp only at hlk
        rw [hlk]
        cases v with
        | inc held sent first last => exact send_inc T m es clk c L now k s W ht hs hb hj
        | res mc since used => exact send_res T m es clk c L now k s W ht hs hb hn hj
      · rw [look_no hk]
        cases m with
        | none => exact send_new0 T es clk c L now to_ s W ht hs hb hn
        | some r => exact send_new T r es clk c L now to_ s W ht hs hb hn hk hL
  refine key.mono ?_
  intro x W' hx
  rw [ha, he] at hx
  obtain ⟨B, k, m', es', clk', L', rfl, hm, ht', ha', hc, hn'⟩ := hx
  obtain ⟨q1, q2⟩ := h.after (K' := fun q => BK B q) ht' h3 hc hn'
  rw [ha'] at q1
  exact ⟨B, k, rfl, hm, q1, q2⟩
theorem OneA.known (h : OneA w T c A K W) (to_ : Int) (v : Value) (hv : knownV (look A to_) = v) :
    Calls Tryd.prog 39 #[.pointer (some ⟨T, 0, none⟩), .int .i64 to_] W fun x W' => x = .returned v ∧ W = W' := by
  obtain ⟨m, es, clk, L, ht, ha, h3⟩ := h.ex
  have e : look A to_ = (L.find? (fun x => decide (x.k = to_))).map (·.v) := by
    rw [← ha]; unfold look absL
    rw [List.find?_map, Option.map_map]; rfl
  have := known_any T m es clk c L to_ W ht
  rw [← e, hv] at this
  exact this
theorem OneA.sizes (h : OneA w T c A K W) (n : Nat) (z : Int) (hn : A.length = n) (hz : sumA A = z) (hl : n ≤ 1000) :
    Calls Tryd.prog 25 #[.pointer (some ⟨T, 0, none⟩)] W fun x W' => x = .returned (.tuple #[.int .i64 (n : Int), .int .i64 z]) ∧ Below W.heap.size W W' := by
  obtain ⟨m, es, clk, L, ht, ha, h3⟩ := h.ex
  have hL : L.length = n := by rw [← hn, ← ha]; unfold absL; simp
  have := sizes_any T m es clk c L W ht (by omega)
  rw [sumC_abs, ha, hz, hL] at this
  exact this
end
end Go.Proofs.YtmgjcjacoegocaaDoor.Ar
