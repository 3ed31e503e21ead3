/-
  What a call on a table changes; DeleteFunc and append at a table's slice.
-/
import Derived.Test.YtmcfllogcmnnoaaDoorPath5
import Derived.Deep.AppendLies
namespace Go.Proofs.YtmcfllogcmnnoaaDoor.Ic
set_option maxRecDepth 100000
open Go.RowKit Go.Proofs.YtmcfllogcmnnoaaDoor.Wire

/-- only the table's box B and its row have changed, and what is new -/
structure Ch (B : Nat) (row : Option Nat) (w w' : World) : Prop where
  os : w'.os = w.os
  tape : w'.tape = w.tape
  output : w'.output = w.output
  size : w.heap.size ≤ w'.heap.size
  block : ∀ k, k < w.heap.size → k ≠ B → row ≠ some k → w'.heap[k]? = w.heap[k]?
theorem Ch.refl (B : Nat) (row : Option Nat) (w : World) : Ch B row w w := ⟨rfl, rfl, rfl, Nat.le_refl _, fun _ _ _ _ => rfl⟩
theorem Ch.of_below {B : Nat} {row : Option Nat} {w w' : World} (h : Below w.heap.size w w') : Ch B row w w' := ⟨h.os, h.tape, h.output, h.size, fun k hk _ _ => h.block k hk⟩
theorem Ch.of_grown {B : Nat} {row : Option Nat} {w w' : World} (h : w.grownBy w' row) : Ch B row w w' := ⟨h.os, h.tape, h.output, h.size, fun k hk _ hr => h.block k hk (fun e => hr e.symm)⟩
theorem Ch.trans {B : Nat} {row row' : Option Nat} {w w1 w2 : World} (h : Ch B row w w1) (k : Ch B row' w1 w2) (hr : row' = row ∨ ∃ g, row' = some g ∧ w.heap.size ≤ g) : Ch B row w w2 :=
  ⟨k.os.trans h.os, k.tape.trans h.tape, k.output.trans h.output, Nat.le_trans h.size k.size, fun i hi hB hi2 => (k.block i (Nat.lt_of_lt_of_le hi h.size) hB (fun e => by
    rcases hr with rfl | ⟨g, rfl, hg⟩
    · exact hi2 e
    · cases e; omega)).trans (h.block i hi hB hi2)⟩
theorem Ch.below {B : Nat} {row : Option Nat} {w w1 w2 : World} (h : Ch B row w w1) (k : Below w1.heap.size w1 w2) : Ch B row w w2 := h.trans (.of_below (row := row) k) (.inl rfl)
theorem Ch.set {B : Nat} {row : Option Nat} {w w1 : World} (h : Ch B row w w1) (o : Nat) (v : Value) : Ch B row w (w1.setCell ⟨B, o, none⟩ v) :=
  ⟨h.os, h.tape, h.output, by simpa [World.setCell] using h.size, fun i hi hB hi2 => (Below.heap_setCell w1 ⟨B, o, none⟩ v i hB).trans (h.block i hi hB hi2)⟩
theorem Ch.kept {B : Nat} {row : Option Nat} {w w' : World} (h : Ch B row w w') {k : Nat} {o : Obj} (hk : w.heap[k]? = some o) (h1 : k ≠ B) (h2 : row ≠ some k) : w'.heap[k]? = some o := (h.block k (blk_lt hk) h1 h2).trans hk
theorem Ch.toBelow {b0 B : Nat} {row : Option Nat} {w w' : World} (h : Ch B row w w') (h1 : b0 ≤ B) (h2 : ∀ g, row = some g → b0 ≤ g) (h3 : b0 ≤ w.heap.size) : Below b0 w w' :=
  ⟨h.os, h.tape, h.output, h.size, fun k hk => h.block k (by omega) (by omega) (fun e => by have := h2 k e; omega)⟩
theorem index_nil (fn : Value) (w : World) : Calls Tryd.prog 81 #[.slice none 0 0, fn] w fun x w' => x = .returned (.int .i64 (-1)) ∧ Below w.heap.size w w' := by
  have HB := Below.refl w.heap.size w
  go_enter Tryd.func81, Tryd.ntmps81
  go_wp2_with fail
  go_loopw [8] (fun i wr => i = .int .i64 0 ∧ Below w.heap.size w wr) (fun i _ => 1 - (Go.RowKit.intOf i).toNat)
  case atStart => exact ⟨rfl, HB⟩
  case round =>
    clear HB
    obtain ⟨rfl, HB⟩ := hrel
    go_wp2_with fail
    go_ret
    exact ⟨rfl, HB⟩
theorem delete_nil (fn : Nat) (lb : Array Value) (w : World) : Calls Tryd.prog 56 #[.slice none 0 0, .func (.func fn) #[] lb] w fun x w' => x = .returned (.slice none 0 0) ∧ Below w.heap.size w w' := by
  have HI := Lib.hid (index_nil (.func (.func fn) #[] lb) w)
  go_enter Tryd.func56, Tryd.ntmps56
  go_wp2_with fail
  refine HI.out.mono ?_
  rintro e w1 ⟨rfl, hb⟩
  go_wp2_with fail
  go_ret
  exact ⟨rfl, hb⟩
/-- the function value answers the test p, whatever has become of the row -/
def TestsO (fn : Nat) (lb : Array Value) (p : En → Bool) (row : Option Nat) (l : List En) (w : World) : Prop := ∀ g, row = some g → Tests fn lb p g l w
theorem delete_o (fn : Nat) (lb : Array Value) (eg : ∀ args w, (callFunc fn args).run Tryd.prog w = .ok (.enter fn args) w) (p : En → Bool) (row : Option Nat) (A : Option Addr) (c : Nat) (l : List En) (w : World) (hl : l.length ≤ 1000000)
    (hr : SlP row A c l w) (hp : TestsO fn lb p row l w) :
    Calls Tryd.prog 56 #[.slice A l.length c, .func (.func fn) #[] lb] w fun x w' =>
      x = .returned (.slice A (keepL p l).length c) ∧ SlP row A c (keepL p l) w' ∧ w.grownBy w' row := by
  cases row with
  | none =>
    obtain ⟨rfl, rfl, rfl⟩ := hr
    refine (delete_nil fn lb w).mono ?_
    rintro e w' ⟨rfl, hb⟩
    exact ⟨rfl, ⟨rfl, rfl, rfl⟩, ⟨hb.os, hb.tape, hb.output, hb.size, fun k hk _ => hb.block k hk⟩⟩
  | some g =>
    obtain ⟨rfl, h2, h3, h4⟩ := hr
    refine (delete_any fn lb eg p g c l w h3 hl h2 (hp g rfl)).mono ?_
    rintro e w' ⟨rfl, hr', hg⟩
    exact ⟨rfl, ⟨rfl, hr', Nat.le_trans (List.length_filter_le _ _) h3, h4⟩, hg⟩
theorem drop_o (row : Option Nat) (A : Option Addr) (c : Nat) (l : List En) (w : World) (hl : 1 ≤ l.length) (hr : SlP row A c l w) :
    Calls Tryd.prog 61 #[.slice A l.length c, .int .i64 0, .int .i64 1] w fun x w' =>
      x = .returned (.slice A (l.drop 1).length c) ∧ SlP row A c (l.drop 1) w' ∧ w.grownBy w' row := by
  cases row with
  | none => obtain ⟨rfl, rfl, rfl⟩ := hr; simp at hl
  | some g =>
    obtain ⟨rfl, h2, h3, h4⟩ := hr
    refine (drop_any g c l w hl h3 h2).mono ?_
    rintro e w' ⟨rfl, hr', hg⟩
    exact ⟨rfl, ⟨rfl, hr', by rw [List.length_drop]; omega, h4⟩, hg⟩
/-- a row as the library's words have it, and back -/
theorem SlP.owns {row : Option Nat} {A : Option Addr} {c : Nat} {l : List En} {W : World} (h : SlP row A c l W) : W.ownsRow 0 100 3 (.slice A l.length c) l.length (enCells l) ∧ (Value.slice A l.length c).ownBlock = row := by
  cases row with
  | none => obtain ⟨rfl, rfl, rfl⟩ := h; exact ⟨World.ownsRow_nil _ _ _ _, rfl⟩
  | some g =>
    obtain ⟨rfl, ⟨cur, h1, h2, h3⟩, h4, h5⟩ := h
    refine ⟨⟨enCells_length l, .inr ⟨g, c, cur, rfl, Nat.zero_le _, h1, h4, h5, h2, ?_⟩⟩, rfl⟩
    apply List.ext_getElem?
    intro t
    by_cases ht : t < l.length * 3
    · rw [List.getElem?_take_of_lt ht, Array.getElem?_toList]
      obtain ⟨x, hx⟩ : ∃ x, l[t / 3]? = some x := ⟨l[t / 3]'(by omega), List.getElem?_eq_getElem _⟩
      obtain ⟨-, c0, c1, c2⟩ := h3 (t / 3) x hx
      obtain ⟨q0, q1, q2⟩ := enCells_get l (t / 3) x hx
      have ht3 : t % 3 = 0 ∨ t % 3 = 1 ∨ t % 3 = 2 := by omega
      rcases ht3 with e | e | e
      · rw [show t / 3 * 3 = t by omega] at q0 c0
        rw [q0, c0]
      · rw [show t / 3 * 3 + 1 = t by omega] at q1 c1
        rw [q1, c1]
      · rw [show t / 3 * 3 + 2 = t by omega] at q2 c2
        rw [q2, c2]
    · rw [List.getElem?_eq_none (by rw [List.length_take]; omega), List.getElem?_eq_none (by rw [enCells_length]; omega)]
theorem slP_of_owns {g c n : Nat} {l : List En} {W : World} (hn : n = l.length) (h : W.ownsRow 0 100 3 (.slice (some ⟨g, 0, none⟩) n c) n (enCells l)) : SlP (some g) (some ⟨g, 0, none⟩) c l W := by
  subst hn
  rcases h.2 with ⟨hv, -⟩ | ⟨g', c', cur, hv, -, h1, h2, h3, h4, h5⟩
  · cases hv
  · cases hv
    refine ⟨rfl, ⟨cur, h1, h4, fun i e he => ?_⟩, h2, h3⟩
    have hi : i < l.length := (List.getElem?_eq_some_iff.1 he).1
    obtain ⟨q0, q1, q2⟩ := enCells_get l i e he
    rw [← h5] at q0 q1 q2
    rw [List.getElem?_take_of_lt (by omega), Array.getElem?_toList] at q0 q1 q2
    exact ⟨by omega, q0, q1, q2⟩
theorem enCells_snoc (l : List En) (e : En) : enCells (l ++ [e]) = enCells l ++ [.int .i64 e.to, .int .i64 e.size, .int .i64 e.at_] := by simp [enCells]
end Go.Proofs.YtmcfllogcmnnoaaDoor.Ic
