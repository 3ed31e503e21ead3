/-
  A slice of 24 slices of strings in memory, each row anywhere in its block.
-/
import Derived.Test.YtjdoemmfemogmaaOff
import Derived.Test.YtjdoemmfemogmaaArOne
namespace Go.Proofs.Ytjdoemmfemogmaa.Ar
set_option maxRecDepth 100000
open Go.RowKit Go.Proofs.Ytjdoemmfemogmaa.Wire

structure Sr where
  A : Option Addr
  c : Nat
  l : List ByteArray
abbrev SRw (W : World) (lo : Nat) (r : Sr) : Prop := ORow 9 1 strC W lo r.A r.c r.l
def Sr.val (r : Sr) : Value := .slice r.A r.l.length r.c
structure Snt (w : World) (S : Nat) (ss : List Sr) (W : World) : Prop where
  lo : w.heap.size ≤ S
  len : ss.length = 24
  blk : ∃ cur, W.heap[S]? = some (.cells cur 35 (0, 0)) ∧ ∀ (k : Nat) (r : Sr), ss[k]? = some r → cur[k]? = some r.val
  row : ∀ (k : Nat) (r : Sr), ss[k]? = some r → SRw W w.heap.size r
  ne : ∀ (k : Nat) (r : Sr), ss[k]? = some r → ∀ q, BK r.A q → q ≠ S
  dis : ∀ (i j : Nat) (ri rj : Sr), ss[i]? = some ri → ss[j]? = some rj → i ≠ j → ∀ q, BK ri.A q → ¬ BK rj.A q
def sOwn (S : Nat) (ss : List Sr) (q : Nat) : Prop := q = S ∨ ∃ (k : Nat) (r : Sr), ss[k]? = some r ∧ BK r.A q
section
variable {w W W' W1 : World} {S : Nat} {ss : List Sr}
theorem ORow.lt {α : Type} {T : TypeId} {k : Nat} {enc : α → List Value} {lo : Nat} {A : Option Addr} {c : Nat} {l : List α} (h : ORow T k enc W lo A c l) {q : Nat} (hq : BK A q) : lo ≤ q ∧ q < W.heap.size := by
  obtain ⟨a, e, rfl⟩ := hq
  exact h.bk e
theorem Snt.lt (h : Snt w S ss W) {q : Nat} (hq : sOwn S ss q) : w.heap.size ≤ q ∧ q < W.heap.size := by
  rcases hq with rfl | ⟨k, r, hk, hq⟩
  · obtain ⟨cur, hb, -⟩ := h.blk
    exact ⟨h.lo, blk_lt hb⟩
  · exact ORow.lt (h.row k r hk) hq
theorem Snt.kept (h : Snt w S ss W) (hk : ∀ q, sOwn S ss q → W'.heap[q]? = W.heap[q]?) : Snt w S ss W' := by
  obtain ⟨cur, hb, hc⟩ := h.blk
  exact ⟨h.lo, h.len, ⟨cur, (hk S (.inl rfl)).trans hb, hc⟩, fun k r hr => (h.row k r hr).kept (fun a e => hk _ (.inr ⟨k, r, hr, a, e, rfl⟩)), h.ne, h.dis⟩
theorem Snt.below (h : Snt w S ss W) (hb : Below W.heap.size W W') : Snt w S ss W' := h.kept (fun q hq => hb.block q (h.lt hq).2)
theorem Snt.stand {K : Nat → Prop} (h : Snt w S ss W) (hk : Kept K W W') (hK : ∀ q, sOwn S ss q → K q) : Snt w S ss W' := h.kept (fun q hq => hk.2 q (hK q hq) (h.lt hq).2)
theorem Snt.cell (h : Snt w S ss W) {k : Nat} {r : Sr} (hk : ss[k]? = some r) : W.cell? ⟨S, k, none⟩ = some r.val ∧ W.frozen? ⟨S, k, none⟩ = false := by
  obtain ⟨cur, hb, hc⟩ := h.blk
  exact cell_of_block hb (hc k r hk)
theorem Snt.at_ (h : Snt w S ss W) {k : Nat} (hk : k < 24) : ∃ r, ss[k]? = some r := ⟨_, List.getElem?_eq_getElem (by rw [h.len]; exact hk)⟩
/-- one row is set anew -/
theorem Snt.put (h : Snt w S ss W) {k : Nat} {r r' : Sr} (hk : ss[k]? = some r) (hg : W.grownBy W1 (r.A.map (·.block))) (hr : SRw W1 w.heap.size r') (hw : (∀ q, BK r'.A q → BK r.A q) ∨ r'.A = some ⟨W.heap.size, 0, none⟩) :
    Snt w S (ss.set k r') (W1.setCell ⟨S, k, none⟩ r'.val) := by
  have hkl := (List.getElem?_eq_some_iff.1 hk).1
  obtain ⟨cur, hb, hc⟩ := h.blk
  have hS := blk_lt hb
  have hbk : ∀ q, r.A.map (·.block) = some q → BK r.A q := fun q e => by
    obtain ⟨a, ha, e2⟩ := Option.map_eq_some_iff.1 e
    exact ⟨a, ha, e2⟩
  have hb1 : W1.heap[S]? = some (.cells cur 35 (0, 0)) := (hg.block S hS (fun e => h.ne k r hk S (hbk S e.symm) rfl)).trans hb
  have hnew : ∀ q, BK r'.A q → q ≠ S ∧ ∀ j rj, j ≠ k → ss[j]? = some rj → ¬ BK rj.A q := fun q hq => by
    rcases hw with hw | hw
    · exact ⟨h.ne k r hk q (hw q hq), fun j rj hjk hj hj2 => h.dis j k rj r hj hk hjk q hj2 (hw q hq)⟩
    · rw [hw] at hq
      obtain ⟨a, e, rfl⟩ := hq
      cases e
      exact ⟨by show W.heap.size ≠ S; omega, fun j rj hjk hj hj2 => by have := (ORow.lt (h.row j rj hj) hj2).2; dsimp only at this; omega⟩
  have hcur : k < cur.size := (Array.getElem?_eq_some_iff.1 (hc k r hk)).1
  refine ⟨h.lo, by rw [List.length_set]; exact h.len, ⟨_, block_setCell hb1, fun j rj hj => ?_⟩, fun j rj hj => ?_, fun j rj hj q hq => ?_, fun i j ri rj hi hj hij q hq hq2 => ?_⟩
  · rw [List.getElem?_set] at hj
    by_cases e : k = j
    · subst e
      rw [if_pos rfl, if_pos hkl] at hj
      cases hj
      rw [Array.getElem?_setIfInBounds_self_of_lt hcur]
    · rw [if_neg e] at hj
      rw [Array.getElem?_setIfInBounds_ne e]
      exact hc j rj hj
  · rw [List.getElem?_set] at hj
    by_cases e : k = j
    · subst e
      rw [if_pos rfl, if_pos hkl] at hj
      cases hj
      exact hr.kept (fun a e => Below.heap_setCell _ _ _ _ (by exact (hnew _ ⟨a, e, rfl⟩).1))
    · rw [if_neg e] at hj
      refine ((h.row j rj hj).kept (fun a ha => ?_) : SRw W1 w.heap.size rj).kept (fun a ha => Below.heap_setCell _ _ _ _ (by exact h.ne j rj hj _ ⟨a, ha, rfl⟩))
      exact hg.block _ ((h.row j rj hj).bk ha).2 (fun e2 => h.dis j k rj r hj hk (fun q => e q.symm) a.block ⟨a, ha, rfl⟩ (hbk _ e2.symm))
  · rw [List.getElem?_set] at hj
    by_cases e : k = j
    · subst e
      rw [if_pos rfl, if_pos hkl] at hj
      cases hj
      exact (hnew q hq).1
    · rw [if_neg e] at hj
      exact h.ne j rj hj q hq
  · rw [List.getElem?_set] at hi hj
    by_cases ei : k = i
    · subst ei
      rw [if_pos rfl, if_pos hkl] at hi
      rw [if_neg hij] at hj
      cases hi
      exact (hnew q hq).2 j rj (fun e => hij e.symm) hj hq2
    · rw [if_neg ei] at hi
      by_cases ej : k = j
      · subst ej
        rw [if_pos rfl, if_pos hkl] at hj
        cases hj
        exact (hnew q hq2).2 i ri (fun e => ei e.symm) hi hq
      · rw [if_neg ej] at hj
        exact h.dis i j ri rj hi hj hij q hq hq2
theorem sOwn_put {k : Nat} {r r' : Sr} (hk : ss[k]? = some r) (hw : (∀ q, BK r'.A q → BK r.A q) ∨ r'.A = some ⟨W.heap.size, 0, none⟩) {q : Nat} (hq : sOwn S (ss.set k r') q) : sOwn S ss q ∨ q = W.heap.size := by
  have hkl := (List.getElem?_eq_some_iff.1 hk).1
  rcases hq with e | ⟨j, rj, hj, hb⟩
  · exact .inl (.inl e)
  · rw [List.getElem?_set] at hj
    by_cases e : k = j
    · subst e
      rw [if_pos rfl, if_pos hkl] at hj
      cases hj
      rcases hw with hw | hw
      · exact .inl (.inr ⟨k, r, hk, hw q hb⟩)
      · rw [hw] at hb
        obtain ⟨a, e, rfl⟩ := hb
        cases e; exact .inr rfl
    · rw [if_neg e] at hj
      exact .inl (.inr ⟨j, rj, hj, hb⟩)
/-- the beginning: 24 empty slices -/
theorem Snt.start {c : Nat} (h : SRow 35 1 (fun v : Value => [v]) W w.heap.size (some ⟨S, 0, none⟩) c (List.replicate 24 (.slice none 0 0))) : Snt w S (List.replicate 24 ⟨none, 0, []⟩) W := by
  rcases h.2 with ⟨e, -⟩ | ⟨g, cap, cur, e, h1, h2, -, -, -, h6⟩
  · cases e
  · have hg : S = g := by injection e with e1; injection e1 with e1; injection e1
    subst hg
    have hr : ∀ (k : Nat) (r : Sr), (List.replicate 24 (⟨none, 0, []⟩ : Sr))[k]? = some r → k < 24 ∧ r = ⟨none, 0, []⟩ := fun k r hk => by
      rw [List.getElem?_replicate] at hk
      split at hk
      · rename_i h; cases hk; exact ⟨h, rfl⟩
      · cases hk
    refine ⟨h1, by simp, ⟨cur, h2, fun k r hk => ?_⟩, fun k r hk => ?_, fun k r hk q hq => ?_, fun i j ri rj hi _ _ q hq => ?_⟩
    · obtain ⟨hk24, rfl⟩ := hr k r hk
      have h7 : (cur.toList.take 24)[k]? = some (.slice none 0 0) := by
        have h8 : cur.toList.take 24 = List.replicate 24 (.slice none 0 0) := by
          have h9 := h6
          simp only [List.length_replicate, Nat.mul_one] at h9
          rw [h9]; rfl
        rw [h8, List.getElem?_replicate, if_pos hk24]
      rw [List.getElem?_take, if_pos hk24] at h7
      have h7' : cur[k]? = some (.slice none 0 0) := by simpa using h7
      exact h7'
    · obtain ⟨-, rfl⟩ := hr k r hk
      exact ORow.nil _ _ _ _ _
    · obtain ⟨-, rfl⟩ := hr k r hk
      exact absurd hq (bk_none q)
    · obtain ⟨-, rfl⟩ := hr i ri hi
      exact absurd hq (bk_none q)
/-- blocks that are not the table's are written -/
theorem OneA.other {T : Nat} {c : Tc} {A : AL} {K S' : Nat → Prop} (h : OneA w T c A K W) (hc : Chg S' W W') (hS : ∀ q, S' q → K q ∧ w.heap.size ≤ q) : OneA w T c A K W' := by
  obtain ⟨m, es, clk, L, h1, h2, h3⟩ := h.ex
  have hz := h.bel.size
  exact ⟨⟨m, es, clk, L, h1.chg hc (fun q hq hs => (h3 q hq).2 (hS q hs).1), h2, h3⟩, hc.os.trans h.bel.os, hc.tape.trans h.bel.tape, hc.output.trans h.bel.output, Nat.le_trans hz hc.size, fun k hk => (hc.block k (by omega) (fun r => by have := (hS k r).2; omega)).trans (h.bel.block k hk)⟩
/-- the row without its first string -/
theorem SRw.tail {lo : Nat} {r : Sr} {s : ByteArray} {l : List ByteArray} (h : SRw W lo r) (hl : r.l = s :: l) : ∃ g off, r.A = some ⟨g, off, none⟩ ∧ W.cell? ⟨g, off, none⟩ = some (.string s) ∧ 1 ≤ r.c ∧ SRw W lo ⟨some ⟨g, off + 1, none⟩, r.c - 1, l⟩ ∧ (r.c = 1 → SRw W lo ⟨some ⟨g, off, none⟩, r.c - 1, l⟩) := by
  obtain ⟨A, c, l0⟩ := r
  dsimp only at hl; subst hl
  obtain ⟨g, off, e, hc⟩ := ORow.cell (k := 1) h (fun _ => rfl) (i := 0) rfl (r := 0) (by omega) rfl
  dsimp only at e
  have hcap := ORow.cap h
  dsimp only at hcap
  rw [List.length_cons] at hcap
  have ht := ORow.tail (k := 1) h (fun _ => rfl) e
  refine ⟨g, off, e, by simpa using hc, by show 1 ≤ c; omega, ht, fun h1 => ?_⟩
  dsimp only at h1
  subst h1
  have hnil : l = [] := List.eq_nil_of_length_eq_zero (by omega)
  subst hnil
  rcases h with ⟨h, -⟩ | ⟨g', off', cur, e', q1, q2, q3, q4, q5, q6⟩
  · dsimp only at h; rw [h] at e; cases e
  · dsimp only at e'
    rw [e] at e'; cases e'
    exact .inr ⟨g, off, cur, rfl, q1, q2, by simp, by simp [maxLen], by simp at q5 ⊢; omega, fun j u hu => by simp at hu⟩
end
end Go.Proofs.Ytjdoemmfemogmaa.Ar
