/-
  Several tables side by side, that own no block together, nor any of the blocks K.
-/
import Derived.Test.YtmgjcjacoegocaaDoorArSendF
namespace Go.Proofs.YtmgjcjacoegocaaDoor.Ar
set_option maxRecDepth 100000
open Go.RowKit Go.Proofs.YtmgjcjacoegocaaDoor.Wire

structure Tb where
  T : Nat
  c : Tc
  A : AL
def TabP (P : Nat → Prop) (t : Tb) (W : World) : Prop := ∃ (m : Option Nat) (es : Array MapEntry) (clk : Nat) (L : List En), Tab W t.T m es clk t.c L ∧ absL L = t.A ∧ ∀ q, TOwn t.T m L q ↔ P q
structure Many (w : World) (l : List Tb) (K : Nat → Prop) (W : World) : Prop where
  tabs : ∃ own : Nat → Nat → Prop, (∀ i t, l[i]? = some t → TabP (own i) t W) ∧ (∀ i j q, i < l.length → j < l.length → i ≠ j → own i q → ¬ own j q) ∧ (∀ i q, i < l.length → own i q → w.heap.size ≤ q ∧ ¬ K q)
  bel : Below w.heap.size w W
section
variable {w W W' : World} {l : List Tb} {K : Nat → Prop}
theorem Many.nil (hb : Below w.heap.size w W) (K : Nat → Prop) : Many w [] K W := ⟨⟨fun _ _ => False, fun i t h => by simp at h, fun i j q h => by simp at h, fun i q h => by simp at h⟩, hb⟩
theorem Many.below (h : Many w l K W) (hb : Below W.heap.size W W') : Many w l K W' := by
  obtain ⟨own, h1, h2, h3⟩ := h.tabs
  refine ⟨⟨own, fun i t hi => ?_, h2, h3⟩, below_call h.bel hb⟩
  obtain ⟨m, es, clk, L, q1, q2, q3⟩ := h1 i t hi
  exact ⟨m, es, clk, L, q1.below hb, q2, q3⟩
theorem Many.more (h : Many w l K W) {K' : Nat → Prop} (hk : ∀ q, K' q → K q ∨ W.heap.size ≤ q) : Many w l K' W := by
  obtain ⟨own, h1, h2, h3⟩ := h.tabs
  refine ⟨⟨own, h1, h2, fun i q hi ho => ⟨(h3 i q hi ho).1, fun r => ?_⟩⟩, h.bel⟩
  rcases hk q r with s | s
  · exact (h3 i q hi ho).2 s
  · obtain ⟨m, es, clk, L, q1, q2, q3⟩ := h1 i l[i] (List.getElem?_eq_getElem hi)
    have := q1.lt ((q3 q).2 ho); omega
/-- one of them, and the way back -/
theorem Many.step (h : Many w l K W) {i : Nat} {t : Tb} (hi : l[i]? = some t) : ∃ Ki : Nat → Prop, OneA w t.T t.c t.A Ki W ∧ (∀ q, K q → Ki q) ∧
    ∀ (c' : Tc) (A' : AL) (N : Nat → Prop) (W' : World), OneA w t.T c' A' (fun q => (Ki q ∧ q < W.heap.size) ∨ N q) W' → Kept Ki W W' → (∀ q, N q → W.heap.size ≤ q) → Many w (l.set i ⟨t.T, c', A'⟩) (fun q => (K q ∧ q < W.heap.size) ∨ N q) W' := by
  obtain ⟨own, h1, h2, h3⟩ := h.tabs
  have hil := (List.getElem?_eq_some_iff.1 hi).1
  obtain ⟨m, es, clk, L, q1, q2, q3⟩ := h1 i t hi
  refine ⟨fun q => K q ∨ ∃ j, j < l.length ∧ j ≠ i ∧ own j q, ⟨⟨m, es, clk, L, q1, q2, fun q hq => ⟨(h3 i q hil ((q3 q).1 hq)).1, ?_⟩⟩, h.bel⟩, fun q hq => .inl hq, ?_⟩
  · rintro (r | ⟨j, hj, hne, r⟩)
    · exact (h3 i q hil ((q3 q).1 hq)).2 r
    · exact h2 i j q hil hj (fun e => hne e.symm) ((q3 q).1 hq) r
  · intro c' A' N W' ho hk hN
    obtain ⟨m', es', clk', L', p1, p2, p3⟩ := ho.ex
    have hlt : ∀ j q, j < l.length → own j q → q < W.heap.size := fun j q hj hq => by
      obtain ⟨m, es, clk, L, q1, q2, q3⟩ := h1 j l[j] (List.getElem?_eq_getElem hj)
      exact q1.lt ((q3 q).2 hq)
    refine ⟨⟨fun j q => if j = i then TOwn t.T m' L' q else own j q, fun j t' hj => ?_, fun a b q ha hb hab => ?_, fun j q hj => ?_⟩, ho.bel⟩
    · rw [List.getElem?_set] at hj
      by_cases e : i = j
      · subst e
        rw [if_pos rfl, if_pos hil] at hj
        cases hj
        exact ⟨m', es', clk', L', p1, p2, fun q => by simp⟩
      · rw [if_neg e] at hj
        obtain ⟨m, es, clk, L, r1, r2, r3⟩ := h1 j t' hj
        have hjl := (List.getElem?_eq_some_iff.1 hj).1
        refine ⟨m, es, clk, L, r1.kept (fun q hq => hk.2 q (.inr ⟨j, hjl, fun e2 => e e2.symm, (r3 q).1 hq⟩) (r1.lt hq)), r2, fun q => ?_⟩
        have e3 : ¬ j = i := fun e2 => e e2.symm
        dsimp only
        rw [if_neg e3]; exact r3 q
    · rw [List.length_set] at ha hb
      dsimp only
      by_cases ea : a = i
      · rw [if_pos ea, if_neg (fun e => hab (ea.trans e.symm))]
        intro hq hq2
        exact (p3 q hq).2 (.inl ⟨.inr ⟨b, hb, fun e => hab (ea.trans e.symm), hq2⟩, hlt b q hb hq2⟩)
      · rw [if_neg ea]
        by_cases eb : b = i
        · rw [if_pos eb]
          intro hq hq2
          exact (p3 q hq2).2 (.inl ⟨.inr ⟨a, ha, ea, hq⟩, hlt a q ha hq⟩)
        · rw [if_neg eb]; exact h2 a b q ha hb hab
    · rw [List.length_set] at hj
      dsimp only
      by_cases e : j = i
      · rw [if_pos e]
        intro hq
        refine ⟨(p3 q hq).1, ?_⟩
        rintro (r | r)
        · exact (p3 q hq).2 (.inl ⟨.inl r.1, r.2⟩)
        · exact (p3 q hq).2 (.inr r)
      · rw [if_neg e]
        intro hq
        refine ⟨(h3 j q hj hq).1, ?_⟩
        rintro (r | r)
        · exact (h3 j q hj hq).2 r.1
        · have := hN q r; have := hlt j q hj hq; omega
/-- one more table -/
theorem Many.push (h : Many w l K W) (own mac : Int) : Many w (l ++ [⟨W.heap.size, ⟨own, mac, false, 0⟩, []⟩]) (fun q => K q ∧ q < W.heap.size) (W.alloc (.cells #[.int .i64 own, .int .i64 mac, .map none, .bool false, .int .i64 0] 102)) := by
  obtain ⟨ow, h1, h2, h3⟩ := h.tabs
  have hlt : ∀ j q, j < l.length → ow j q → q < W.heap.size := fun j q hj hq => by
    obtain ⟨m, es, clk, L, q1, q2, q3⟩ := h1 j l[j] (List.getElem?_eq_getElem hj)
    exact q1.lt ((q3 q).2 hq)
  have hlen : (l ++ [(⟨W.heap.size, ⟨own, mac, false, 0⟩, []⟩ : Tb)]).length = l.length + 1 := by simp
  refine ⟨⟨fun j q => if j = l.length then q = W.heap.size else ow j q, fun j t' hj => ?_, fun a b q ha hb hab => ?_, fun j q hj => ?_⟩, below_alloc h.bel⟩
  · rw [List.getElem?_append] at hj
    by_cases e : j < l.length
    · rw [if_pos e] at hj
      obtain ⟨m, es, clk, L, r1, r2, r3⟩ := h1 j t' hj
      refine ⟨m, es, clk, L, r1.below (below_alloc (Below.refl _ _)), r2, fun q => ?_⟩
      have e3 : ¬ j = l.length := by omega
      dsimp only
      rw [if_neg e3]; exact r3 q
    · rw [if_neg e] at hj
      have e0 : j - l.length = 0 := by
        have := (List.getElem?_eq_some_iff.1 hj).1
        simp at this; omega
      rw [e0] at hj
      have e1 : j = l.length := by omega
      cases hj
      subst e1
      refine ⟨none, #[], 0, [], ⟨alloc_new W _, .inl ⟨rfl, rfl⟩, fun h => absurd rfl h, List.nodup_nil, fun h => absurd rfl h, fun e he => by simp at he, fun e he => by simp at he, List.Pairwise.nil⟩, rfl, fun q => ?_⟩
      dsimp only
      rw [if_pos rfl]
      constructor
      · rintro (r | r | ⟨e, he, -⟩)
        · exact r
        · cases r
        · simp at he
      · intro r; exact .inl r
  · rw [hlen] at ha hb
    dsimp only
    by_cases ea : a = l.length
    · rw [if_pos ea, if_neg (fun e => hab (ea.trans e.symm))]
      intro hq hq2
      have := hlt b q (by omega) hq2; omega
    · rw [if_neg ea]
      by_cases eb : b = l.length
      · rw [if_pos eb]
        intro hq hq2
        have := hlt a q (by omega) hq; omega
      · rw [if_neg eb]; exact h2 a b q (by omega) (by omega) hab
  · rw [hlen] at hj
    dsimp only
    by_cases e : j = l.length
    · rw [if_pos e]
      intro hq
      refine ⟨by have := h.bel.size; omega, fun r => by omega⟩
    · rw [if_neg e]
      intro hq
      exact ⟨(h3 j q (by omega) hq).1, fun r => (h3 j q (by omega) hq).2 r.1⟩
theorem Kept.mono {K' : Nat → Prop} (h : Kept K W W') (hk : ∀ q, K' q → K q) : Kept K' W W' := ⟨h.1, fun q hq hl => h.2 q (hk q hq) hl⟩
theorem Many.send (h : Many w l K W) {i : Nat} {t : Tb} (hi : l[i]? = some t) (now to_ : Int) (s : ByteArray) (A' : AL) (mac : Int) (out : List Am) (err : Int) (he : sendF t.c t.A now to_ s = (A', mac, out, err)) (hs : s.size ≤ 9223372036854775807) (hn : In64 now) (hA : t.A.length ≤ 1000) (h64 : ∀ x ∈ t.A, In64 x.1) :
    Calls Tryd.prog 23 #[.pointer (some ⟨t.T, 0, none⟩), .int .i64 now, .int .i64 to_, .string s] W fun x W' =>
      ∃ (B : Option Addr) (k : Nat), x = .returned (.tuple #[.int .i64 mac, .slice B out.length k, .int .i64 err]) ∧ MRow W' W.heap.size B k out ∧ Many w (l.set i ⟨t.T, t.c, A'⟩) (fun q => (K q ∧ q < W.heap.size) ∨ BK B q) W' ∧ Kept K W W' := by
  obtain ⟨Ki, ho, hk, hback⟩ := h.step hi
  refine (ho.sendF now to_ s A' mac out err he hs hn hA h64).mono ?_
  rintro x W' ⟨B, k, rfl, hm, ho', hk'⟩
  exact ⟨B, k, rfl, hm, hback t.c A' (BK B) W' ho' hk' (fun q hq => (hm.bk' hq).1), hk'.mono hk⟩
theorem Many.recv (h : Many w l K W) {i : Nat} {t : Tb} (hi : l[i]? = some t) (now op f fm to_ tm : Int) (c' : Tc) (A' : AL) (out : List Am) (held : List Hp) (he : recvA t.c t.A now ⟨op, f, fm, to_, tm⟩ = (c', A', out, held)) (h1 : In64 now) (h2 : In64 t.c.at_) :
    Calls Tryd.prog 20 #[.pointer (some ⟨t.T, 0, none⟩), .int .i64 now, .agg #[.int .i64 op, .int .i64 f, .int .i64 fm, .int .i64 to_, .int .i64 tm]] W fun x W' =>
      ∃ (B : Option Addr) (k : Nat) (D : Option Addr) (d : Nat), x = .returned (.tuple #[.slice B out.length k, .slice D held.length d]) ∧ MRow W' W.heap.size B k out ∧ HRow W' W.heap.size D d held ∧ Many w (l.set i ⟨t.T, c', A'⟩) (fun q => (K q ∧ q < W.heap.size) ∨ BK B q ∨ BK D q) W' ∧ Kept K W W' := by
  obtain ⟨Ki, ho, hk, hback⟩ := h.step hi
  refine (ho.recv now op f fm to_ tm c' A' out held he h1 h2).mono ?_
  rintro x W' ⟨B, k, D, d, rfl, hm, hh, ho', hk'⟩
  exact ⟨B, k, D, d, rfl, hm, hh, hback c' A' (fun q => BK B q ∨ BK D q) W' ho' hk' (fun q hq => hq.elim (fun r => (hm.bk' r).1) (fun r => (hh.bk' r).1)), hk'.mono hk⟩
theorem Many.tick (h : Many w l K W) {i : Nat} {t : Tb} (hi : l[i]? = some t) (now : Int) (A' : AL) (out : List Am) (held : List Hp) (he : tickA t.c t.A now = (A', out, held)) (hn : In64 now) (hA : t.A.length ≤ 1000) (h64 : ∀ x ∈ t.A, In64 x.1) (hne : ∀ x ∈ t.A, x.2.some_) :
    Calls Tryd.prog 22 #[.pointer (some ⟨t.T, 0, none⟩), .int .i64 now] W fun x W' =>
      ∃ (B : Option Addr) (k : Nat) (D : Option Addr) (d : Nat), x = .returned (.tuple #[.slice B out.length k, .slice D held.length d]) ∧ MRow W' W.heap.size B k out ∧ HRow W' W.heap.size D d held ∧ Many w (l.set i ⟨t.T, t.c, A'⟩) (fun q => (K q ∧ q < W.heap.size) ∨ BK B q ∨ BK D q) W' ∧ Kept K W W' := by
  obtain ⟨Ki, ho, hk, hback⟩ := h.step hi
  refine (ho.tick now A' out held he hn hA h64 hne).mono ?_
  rintro x W' ⟨B, k, D, d, rfl, hm, hh, ho', hk'⟩
  exact ⟨B, k, D, d, rfl, hm, hh, hback t.c A' (fun q => BK B q ∨ BK D q) W' ho' hk' (fun q hq => hq.elim (fun r => (hm.bk' r).1) (fun r => (hh.bk' r).1)), hk'.mono hk⟩
theorem Many.known (h : Many w l K W) {i : Nat} {t : Tb} (hi : l[i]? = some t) (to_ : Int) (v : Value) (hv : knownV (look t.A to_) = v) :
    Calls Tryd.prog 39 #[.pointer (some ⟨t.T, 0, none⟩), .int .i64 to_] W fun x W' => x = .returned v ∧ W = W' := by
  obtain ⟨Ki, ho, hk, hback⟩ := h.step hi
  exact ho.known to_ v hv
theorem Many.sizes (h : Many w l K W) {i : Nat} {t : Tb} (hi : l[i]? = some t) (n : Nat) (z : Int) (hn : t.A.length = n) (hz : sumA t.A = z) (hl : n ≤ 1000) :
    Calls Tryd.prog 25 #[.pointer (some ⟨t.T, 0, none⟩)] W fun x W' => x = .returned (.tuple #[.int .i64 (n : Int), .int .i64 z]) ∧ Below W.heap.size W W' := by
  obtain ⟨Ki, ho, hk, hback⟩ := h.step hi
  exact ho.sizes n z hn hz hl
end
/-- a row in blocks that stand -/
theorem SRow.stand {α : Type} {T : TypeId} {k : Nat} {enc : α → List Value} {W W' : World} {lo : Nat} {A : Option Addr} {c : Nat} {l : List α} {K : Nat → Prop} (h : SRow T k enc W lo A c l) (hk : Kept K W W') (hK : ∀ q, BK A q → K q) : SRow T k enc W' lo A c l := h.kept fun a e => hk.2 _ (hK _ ⟨a, e, rfl⟩) (h.bk e).2
end Go.Proofs.YtmgjcjacoegocaaDoor.Ar
