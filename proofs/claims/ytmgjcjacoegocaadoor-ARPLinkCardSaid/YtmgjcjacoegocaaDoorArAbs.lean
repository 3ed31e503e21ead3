/-
  A table's entries as plain data; looking up, setting anew.
-/
import Derived.Test.YtmgjcjacoegocaaDoorArRel
namespace Go.Proofs.YtmgjcjacoegocaaDoor.Ar
set_option maxRecDepth 100000
open Go.RowKit Go.Proofs.YtmgjcjacoegocaaDoor.Wire

abbrev AL := List (Int × Ev)
def absL (L : List En) : AL := L.map fun e => (e.k, e.v)
/-- the entry of an address -/
def look (A : AL) (k : Int) : Option Ev := (A.find? fun x => decide (x.1 = k)).map (·.2)
/-- the entry of an address is set anew, where it stands -/
def upd (A : AL) (k : Int) (v : Ev) : AL := A.map fun x => if x.1 = k then (k, v) else x
theorem look_at {L : List En} (hn : (L.map (·.k)).Nodup) {j : Nat} {x : En} (hj : L[j]? = some x) : look (absL L) x.k = some x.v := by
  unfold look absL
  rw [List.find?_map]
  have := find_key hn hj
  rw [show ((fun y : Int × Ev => decide (y.1 = x.k)) ∘ fun e : En => (e.k, e.v)) = fun y : En => decide (y.k = x.k) from rfl, this]
  rfl
theorem look_no {L : List En} {k : Int} (h : k ∉ L.map (·.k)) : look (absL L) k = none := by
  unfold look absL
  rw [List.find?_map, Option.map_map, Option.map_eq_none_iff, List.find?_eq_none]
  intro y hy; simp; rintro rfl; exact h (List.mem_map_of_mem hy)
theorem abs_set {L : List En} (hn : (L.map (·.k)).Nodup) {j : Nat} {x e' : En} (hj : L[j]? = some x) (hk : e'.k = x.k) : absL (L.set j e') = upd (absL L) x.k e'.v := by
  unfold absL upd
  apply List.ext_getElem?
  intro i
  rw [List.getElem?_map, List.getElem?_set, List.getElem?_map, List.getElem?_map]
  have hl := (List.getElem?_eq_some_iff.1 hj).1
  by_cases q : j = i
  · subst q
    rw [if_pos rfl, if_pos hl, hj]; simp [hk]
  · rw [if_neg q]
    cases hi : L[i]? with
    | none => simp
    | some y =>
      have hy : y.k ≠ x.k := fun e => q (by
        have h1 : (L.map (·.k))[j]? = some x.k := by simp [hj]
        have h2 : (L.map (·.k))[i]? = some x.k := by simp [hi, e]
        obtain ⟨a1, b1⟩ := List.getElem?_eq_some_iff.1 h1
        obtain ⟨a2, b2⟩ := List.getElem?_eq_some_iff.1 h2
        rcases Nat.lt_trichotomy j i with r | r | r
        · exact absurd (b1.trans b2.symm) ((List.pairwise_iff_getElem.1 hn) j i a1 a2 r)
        · exact r
        · exact absurd (b2.trans b1.symm) ((List.pairwise_iff_getElem.1 hn) i j a2 a1 r))
      simp [hy]
theorem bk_none (q : Nat) : ¬ BK none q := fun ⟨_, e, _⟩ => by cases e
end Go.Proofs.YtmgjcjacoegocaaDoor.Ar
