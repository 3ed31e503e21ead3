/-
  What a function may change: a set of blocks, and what is new. A slice of one-cell elements, written, grown. No program in sight.
-/
import Derived.Test.YtmeldgnjgogacaaReHalf
import Derived.Test.YtmeldgnjgogacaaReZeros
namespace Go.Proofs.Ytmeldgnjgogacaa.Re
set_option maxRecDepth 100000
open Go.RowKit Go.Proofs.Ytmeldgnjgogacaa.Wire
open Go.Proofs.Ytmeldgnjgogacaa.Ip (Pk)

/-- only the blocks in S, and what is new, have changed -/
structure Chg (S : Nat → Prop) (w w' : World) : Prop where
  os : w'.os = w.os
  tape : w'.tape = w.tape
  output : w'.output = w.output
  size : w.heap.size ≤ w'.heap.size
  block : ∀ k, k < w.heap.size → ¬ S k → w'.heap[k]? = w.heap[k]?
theorem Chg.refl (S : Nat → Prop) (w : World) : Chg S w w := ⟨rfl, rfl, rfl, Nat.le_refl _, fun _ _ _ => rfl⟩
theorem Chg.trans {S S' : Nat → Prop} {a b c : World} (h : Chg S a b) (k : Chg S' b c) (hs : ∀ i, S' i → S i ∨ a.heap.size ≤ i) : Chg S a c :=
  ⟨k.os.trans h.os, k.tape.trans h.tape, k.output.trans h.output, Nat.le_trans h.size k.size, fun i hi hn => (k.block i (Nat.lt_of_lt_of_le hi h.size) (fun q => by
    rcases hs i q with q | q
    · exact hn q
    · omega)).trans (h.block i hi hn)⟩
theorem Chg.of_below {S : Nat → Prop} {w w' : World} (h : Below w.heap.size w w') : Chg S w w' := ⟨h.os, h.tape, h.output, h.size, fun k hk _ => h.block k hk⟩
theorem Chg.call {S : Nat → Prop} {a w w' : World} (h : Chg S a w) (hb : Below w.heap.size w w') : Chg S a w' := h.trans (Chg.of_below (S := S) hb) (fun _ q => .inl q)
theorem Chg.alloc {S : Nat → Prop} {a w : World} (h : Chg S a w) (o : Obj) : Chg S a (w.alloc o) := h.call ((Below.refl _ _).alloc (Nat.le_refl _) o)
theorem Chg.drew {S : Nat → Prop} {a w : World} (h : Chg S a w) : Chg S a w.drew := ⟨h.os, h.tape, h.output, h.size, h.block⟩
theorem Chg.drewN {S : Nat → Prop} {a w : World} (h : Chg S a w) (n : Nat) : Chg S a (w.drewN n) := ⟨h.os, h.tape, h.output, h.size, h.block⟩
theorem Chg.grown {S : Nat → Prop} {a w w' : World} {row : Option Nat} (h : Chg S a w) (hg : w.grownBy w' row) (hr : ∀ k, row = some k → S k ∨ a.heap.size ≤ k) : Chg S a w' :=
  h.trans (S' := fun k => row = some k) ⟨hg.os, hg.tape, hg.output, hg.size, fun k hk hn => hg.block k hk (fun e => hn e.symm)⟩ hr
theorem Chg.set {S : Nat → Prop} {a w : World} (h : Chg S a w) {p : Addr} (hp : S p.block ∨ a.heap.size ≤ p.block) (u : Value) : Chg S a (w.setCell p u) :=
  h.grown (only_set (World.grownBy.refl w (some p.block)) (.inl rfl) u) (fun k e => by cases e; exact hp)
theorem Chg.below {S : Nat → Prop} {B : Nat} {a w : World} (h : Chg S a w) (hB : B ≤ a.heap.size) (hS : ∀ k, S k → B ≤ k) : Below B a w :=
  ⟨h.os, h.tape, h.output, h.size, fun k hk => h.block k (by omega) (fun q => by have := hS k q; omega)⟩
theorem Chg.mono {S S' : Nat → Prop} {a w : World} (h : Chg S a w) (hs : ∀ k, S k → S' k) : Chg S' a w := ⟨h.os, h.tape, h.output, h.size, fun k hk hn => h.block k hk (fun q => hn (hs k q))⟩
/-- a slice is kept where its block is -/
theorem Sl.kept {W W' : World} {A : Option Addr} {n c : Nat} {T : TypeId} {xs : List Value} (h : Sl W (.slice A n c) T xs) (hk : ∀ a, A = some a → W'.heap[a.block]? = W.heap[a.block]?) : Sl W' (.slice A n c) T xs := by
  refine ⟨h.1, ?_⟩
  rcases h.2 with q | ⟨g, cap, cur, e, h1, h2, h3⟩
  · exact .inl q
  · cases e
    exact .inr ⟨g, _, cur, rfl, h1, (hk _ rfl).trans h2, h3⟩
theorem Sl.lt {W : World} {a : Addr} {n c : Nat} {T : TypeId} {xs : List Value} (h : Sl W (.slice (some a) n c) T xs) : a.block < W.heap.size ∧ a = ⟨a.block, 0, none⟩ := by
  rcases h.2 with ⟨e, -⟩ | ⟨g, cap, cur, e, -, h2, -⟩
  · cases e
  · cases e; exact ⟨blk_lt h2, rfl⟩
theorem Sl.set {W : World} {g n c k : Nat} {T : TypeId} {xs : List Value} (h : Sl W (.slice (some ⟨g, 0, none⟩) n c) T xs) (u : Value) : Sl (W.setCell ⟨g, k, none⟩ u) (.slice (some ⟨g, 0, none⟩) n c) T (xs.set k u) := by
  unfold Sl
  rw [List.length_set]
  refine ⟨by rw [List.length_set]; exact h.1, ?_⟩
  rcases h.2 with ⟨e, -⟩ | ⟨g', cap, cur, e, h1, h2, h3, h4, h5, h6⟩
  · cases e
  · cases e
    refine .inr ⟨g, c, _, rfl, h1, block_setCell h2, h3, h4, by simpa using h5, ?_⟩
    rw [Array.toList_setIfInBounds, List.take_set, h6]
/-- the blocks of a datagram -/
def In3 (hb : Nat) (Ab Ah : Option Addr) (k : Nat) : Prop := k = hb ∨ (∃ a, Ab = some a ∧ a.block = k) ∨ ∃ a, Ah = some a ∧ a.block = k
/-- they lie apart -/
structure Dis (hb : Nat) (Ab Ah : Option Addr) : Prop where
  b : ∀ a, Ab = some a → a.block ≠ hb
  h : ∀ a, Ah = some a → a.block ≠ hb
  bh : ∀ a c, Ab = some a → Ah = some c → a.block ≠ c.block
/-- what holds in the middle of a change to the datagram in block hb -/
structure HSt (S : Nat → Prop) (w W : World) (hb : Nat) (H : Hf) (Ab : Option Addr) (cb : Nat) (Ah : Option Addr) (ch : Nat) : Prop where
  half : HalfB W hb H Ab cb Ah ch
  dis : Dis hb Ab Ah
  chg : Chg S w W
  own : ∀ k, In3 hb Ab Ah k → S k ∨ w.heap.size ≤ k
variable {S : Nat → Prop} {w W : World} {hb : Nat} {H : Hf} {Ab Ah : Option Addr} {cb ch : Nat}
theorem HSt.start (hH : HalfB w hb H Ab cb Ah ch) (hd : Dis hb Ab Ah) (hs : ∀ k, In3 hb Ab Ah k → S k) : HSt S w w hb H Ab cb Ah ch := ⟨hH, hd, Chg.refl _ _, fun k q => .inl (hs k q)⟩
theorem HSt.call {W' : World} (h : HSt S w W hb H Ab cb Ah ch) (hl : Below W.heap.size W W') : HSt S w W' hb H Ab cb Ah ch := ⟨h.half.below hl, h.dis, h.chg.call hl, h.own⟩
theorem HSt.alloc (h : HSt S w W hb H Ab cb Ah ch) (o : Obj) : HSt S w (W.alloc o) hb H Ab cb Ah ch := h.call ((Below.refl _ _).alloc (Nat.le_refl _) o)
theorem HSt.drew (h : HSt S w W hb H Ab cb Ah ch) : HSt S w W.drew hb H Ab cb Ah ch := ⟨h.half, h.dis, h.chg.drew, h.own⟩
theorem HSt.blk (h : HSt S w W hb H Ab cb Ah ch) : hb < W.heap.size := blk_lt h.half.1
theorem HSt.ownb (h : HSt S w W hb H Ab cb Ah ch) : S hb ∨ w.heap.size ≤ hb := h.own hb (.inl rfl)
/-- cells of the datagram's block are written -/
theorem HSt.field (h : HSt S w W hb H Ab cb Ah ch) {W' : World} (hg : W.grownBy W' (some hb)) (H' : Hf) (hb' : W'.heap[hb]? = some (.cells #[.int .i64 H'.start, .bool H'.rej, .slice Ab H'.by_.length cb, .slice Ah H'.hv.length ch, .int .i64 H'.cnt, .bool H'.ended, .int .i64 H'.en, .bool H'.started, .int .i64 H'.first.f, .int .i64 H'.first.t, .int .i64 H'.first.pr, .int .i64 H'.first.ttl, .int .i64 H'.first.id, .bool H'.first.df, .bool H'.first.mf, .int .i64 H'.first.off, .string H'.first.s] 83)) (e1 : H'.by_ = H.by_) (e2 : H'.hv = H.hv) : HSt S w W' hb H' Ab cb Ah ch := by
  refine ⟨⟨hb', ?_, ?_⟩, h.dis, h.chg.grown hg (fun k e => by cases e; exact h.ownb), h.own⟩
  · rw [e1]
    refine Sl.kept h.half.2.1 (fun a e => hg.block _ ?_ ?_)
    · subst e; exact h.half.2.1.lt.1
    · intro q; injection q with q; exact h.dis.b a e q
  · rw [e2]
    refine Sl.kept h.half.2.2 (fun a e => hg.block _ ?_ ?_)
    · subst e; exact h.half.2.2.lt.1
    · intro q; injection q with q; exact h.dis.h a e q
/-- a byte is written -/
theorem HSt.setBy {gb k : Nat} (h : HSt S w W hb H (some ⟨gb, 0, none⟩) cb Ah ch) (x : UInt8) : HSt S w (W.setCell ⟨gb, k, none⟩ (.int .u8 (x.toNat : Int))) hb { H with by_ := H.by_.set k x } (some ⟨gb, 0, none⟩) cb Ah ch := by
  have hne : gb ≠ hb := h.dis.b _ rfl
  refine ⟨⟨?_, ?_, ?_⟩, h.dis, h.chg.set (h.own gb (.inr (.inl ⟨_, rfl, rfl⟩))) _, h.own⟩
  · have := block_set_other (a := ⟨gb, k, none⟩) (u := .int .u8 (x.toNat : Int)) h.half.1 hne
    simpa only [List.length_set] using this
  · have := h.half.2.1.set (k := k) (.int .u8 (x.toNat : Int))
    simpa only [List.length_set, byC, List.map_set] using this
  · exact Sl.kept h.half.2.2 (fun a e => Below.heap_setCell _ _ _ _ (fun q => h.dis.bh _ a rfl e q.symm))
/-- a mark is written -/
theorem HSt.setHv {gh k : Nat} (h : HSt S w W hb H Ab cb (some ⟨gh, 0, none⟩) ch) (x : Bool) : HSt S w (W.setCell ⟨gh, k, none⟩ (.bool x)) hb { H with hv := H.hv.set k x } Ab cb (some ⟨gh, 0, none⟩) ch := by
  have hne : gh ≠ hb := h.dis.h _ rfl
  refine ⟨⟨?_, ?_, ?_⟩, h.dis, h.chg.set (h.own gh (.inr (.inr ⟨_, rfl, rfl⟩))) _, h.own⟩
  · have := block_set_other (a := ⟨gh, k, none⟩) (u := .bool x) h.half.1 hne
    simpa only [List.length_set] using this
  · exact Sl.kept h.half.2.1 (fun a e => Below.heap_setCell _ _ _ _ (fun q => h.dis.bh a _ e rfl q))
  · have := h.half.2.2.set (k := k) (.bool x)
    simpa only [List.length_set, boC, List.map_set] using this
/-- more bytes -/
theorem HSt.moreBy {W1 : World} {g cap m : Nat} (h : HSt S w W hb H Ab cb Ah ch) (ho : W1.ownsRow 0 5 1 (.slice (some ⟨g, 0, none⟩) (H.by_.length + m) cap) (H.by_.length + m) (byC H.by_ ++ List.replicate m (.int .u8 0))) (hg : W.grownBy W1 (Value.ownBlock (.slice Ab H.by_.length cb))) (hw : Value.ownBlock (.slice Ab H.by_.length cb) = some g ∨ g = W.heap.size) :
    HSt S w (W1.setCell ⟨hb, 2, none⟩ (.slice (some ⟨g, 0, none⟩) (H.by_.length + m) cap)) hb { H with by_ := H.by_ ++ List.replicate m 0 } (some ⟨g, 0, none⟩) cap Ah ch := by
  have hbl := h.blk
  have hob : ∀ k, Value.ownBlock (.slice Ab H.by_.length cb) = some k → ∃ a, Ab = some a ∧ a.block = k := fun k e => by
    cases Ab with
    | none => cases e
    | some a => exact ⟨a, rfl, by simpa [Value.ownBlock] using e⟩
  have hgh : g ≠ hb := by
    rcases hw with q | q
    · obtain ⟨a, e1, e2⟩ := hob g q; rw [← e2]; exact h.dis.b a e1
    · omega
  have hk1 : W1.heap[hb]? = W.heap[hb]? := hg.block hb hbl (fun e => by obtain ⟨a, e1, e2⟩ := hob hb e.symm; exact h.dis.b a e1 e2)
  have hgo : S g ∨ w.heap.size ≤ g := by
    rcases hw with q | q
    · exact h.own g (.inr (.inl (hob g q)))
    · exact .inr (by have := h.chg.size; omega)
  refine ⟨⟨?_, ?_, ?_⟩, ⟨fun a e => by cases e; exact hgh, h.dis.h, fun a c e1 e2 => ?_⟩, ?_, ?_⟩
  · have := block_setCell (k := 2) (v := .slice (some ⟨g, 0, none⟩) (H.by_.length + m) cap) (hk1.trans h.half.1)
    rw [this]; simp
  · refine Sl.kept (W := W1) ?_ (fun a e => Below.heap_setCell _ _ _ _ (by cases e; exact hgh))
    unfold Sl
    have e1 : (byC H.by_ ++ List.replicate m (.int .u8 0)) = byC (H.by_ ++ List.replicate m 0) := by simp [byC]
    have e2 : (byC (H.by_ ++ List.replicate m 0)).length = H.by_.length + m := by simp [byC]
    have e3 : (H.by_ ++ List.replicate m 0).length = H.by_.length + m := by simp
    rw [e2]
    show W1.ownsRow 0 _ 1 (.slice _ (H.by_ ++ List.replicate m 0).length _) _ _
    rw [e3, ← e1]; exact ho
  · refine Sl.kept h.half.2.2 (fun a e => ?_)
    rw [Below.heap_setCell _ _ _ _ (h.dis.h a e)]
    subst e
    exact hg.block _ h.half.2.2.lt.1 (fun e => by obtain ⟨c, e1, e2⟩ := hob _ e.symm; exact h.dis.bh c a e1 rfl e2)
  · cases e1
    show g ≠ c.block
    rcases hw with q | q
    · obtain ⟨a, e1, e3⟩ := hob g q; rw [← e3]; exact h.dis.bh a c e1 e2
    · subst e2; have := h.half.2.2.lt.1; omega
  · exact (h.chg.grown hg (fun k e => h.own k (.inr (.inl (hob k e))))).set (.elim h.ownb .inl .inr) _
  · rintro k (q | ⟨a, e, q⟩ | q)
    · subst q; exact h.ownb
    · cases e; subst q; exact hgo
    · exact h.own k (.inr (.inr q))
/-- more marks -/
theorem HSt.moreHv {W1 : World} {g cap m : Nat} (h : HSt S w W hb H Ab cb Ah ch) (ho : W1.ownsRow 0 4 1 (.slice (some ⟨g, 0, none⟩) (H.hv.length + m) cap) (H.hv.length + m) (boC H.hv ++ List.replicate m (.bool false))) (hg : W.grownBy W1 (Value.ownBlock (.slice Ah H.hv.length ch))) (hw : Value.ownBlock (.slice Ah H.hv.length ch) = some g ∨ g = W.heap.size) :
    HSt S w (W1.setCell ⟨hb, 3, none⟩ (.slice (some ⟨g, 0, none⟩) (H.hv.length + m) cap)) hb { H with hv := H.hv ++ List.replicate m false } Ab cb (some ⟨g, 0, none⟩) cap := by
  have hbl := h.blk
  have hob : ∀ k, Value.ownBlock (.slice Ah H.hv.length ch) = some k → ∃ a, Ah = some a ∧ a.block = k := fun k e => by
    cases Ah with
    | none => cases e
    | some a => exact ⟨a, rfl, by simpa [Value.ownBlock] using e⟩
  have hgh : g ≠ hb := by
    rcases hw with q | q
    · obtain ⟨a, e1, e2⟩ := hob g q; rw [← e2]; exact h.dis.h a e1
    · omega
  have hk1 : W1.heap[hb]? = W.heap[hb]? := hg.block hb hbl (fun e => by obtain ⟨a, e1, e2⟩ := hob hb e.symm; exact h.dis.h a e1 e2)
  have hgo : S g ∨ w.heap.size ≤ g := by
    rcases hw with q | q
    · exact h.own g (.inr (.inr (hob g q)))
    · exact .inr (by have := h.chg.size; omega)
  refine ⟨⟨?_, ?_, ?_⟩, ⟨h.dis.b, fun a e => by cases e; exact hgh, fun a c e1 e2 => ?_⟩, ?_, ?_⟩
  · have := block_setCell (k := 3) (v := .slice (some ⟨g, 0, none⟩) (H.hv.length + m) cap) (hk1.trans h.half.1)
    rw [this]; simp
  · refine Sl.kept h.half.2.1 (fun a e => ?_)
    rw [Below.heap_setCell _ _ _ _ (h.dis.b a e)]
    subst e
    exact hg.block _ h.half.2.1.lt.1 (fun e => by obtain ⟨c, e1, e2⟩ := hob _ e.symm; exact h.dis.bh a c rfl e1 e2.symm)
  · refine Sl.kept (W := W1) ?_ (fun a e => Below.heap_setCell _ _ _ _ (by cases e; exact hgh))
    unfold Sl
    have e1 : (boC H.hv ++ List.replicate m (.bool false)) = boC (H.hv ++ List.replicate m false) := by simp [boC]
    have e2 : (boC (H.hv ++ List.replicate m false)).length = H.hv.length + m := by simp [boC]
    have e3 : (H.hv ++ List.replicate m false).length = H.hv.length + m := by simp
    rw [e2]
    show W1.ownsRow 0 _ 1 (.slice _ (H.hv ++ List.replicate m false).length _) _ _
    rw [e3, ← e1]; exact ho
  · cases e2
    show a.block ≠ g
    rcases hw with q | q
    · obtain ⟨c, e2, e3⟩ := hob g q; rw [← e3]; exact h.dis.bh a c e1 e2
    · subst e1; have := h.half.2.1.lt.1; omega
  · exact (h.chg.grown hg (fun k e => h.own k (.inr (.inr (hob k e))))).set (.elim h.ownb .inl .inr) _
  · rintro k (q | q | ⟨a, e, q⟩)
    · subst q; exact h.ownb
    · exact h.own k (.inr (.inl q))
    · cases e; subst q; exact hgo
end Go.Proofs.Ytmeldgnjgogacaa.Re
