/-
  What Tick computes, over entries as plain data.
-/
import Derived.Test.YtmgjcjacoegocaaDoorArVic0
namespace Go.Proofs.YtmgjcjacoegocaaDoor.Ar
set_option maxRecDepth 100000
open Go.RowKit Go.Proofs.YtmgjcjacoegocaaDoor.Wire
/-- what becomes of an entry -/
def tick1 (now : Int) (x : Int × Ev) : Option (Int × Ev) :=
  match x.2 with
  | .inc held sent first last => if agedB now last 10 = true then (if sent < 3 then some (x.1, .inc held (sent + 1) first now) else none) else some x
  | .res _ since _ => if agedB now since 600 = true then none else some x
/-- the request that is repeated -/
def tickM (c : Tc) (now : Int) (x : Int × Ev) : List Am :=
  match x.2 with
  | .inc _ sent _ last => if agedB now last 10 = true ∧ sent < 3 then [req c x.1] else []
  | .res .. => []
/-- the packets that are lost -/
def tickH (now : Int) (x : Int × Ev) : List Hp :=
  match x.2 with
  | .inc held sent _ last => if agedB now last 10 = true ∧ ¬ sent < 3 then held.map (fun s => ⟨x.1, 0, s⟩) else []
  | .res .. => []
def tickA (c : Tc) (A : AL) (now : Int) : AL × List Am × List Hp := (A.filterMap (tick1 now), (ordA A).flatMap (tickM c now), (ordA A).flatMap (tickH now))
theorem fm_congr {α β : Type} {f g : α → Option β} : ∀ {l : List α}, (∀ x ∈ l, f x = g x) → l.filterMap f = l.filterMap g
  | [], _ => rfl
  | x :: l, h => by
    rw [List.filterMap_cons, List.filterMap_cons, h x (List.mem_cons_self ..), fm_congr (fun y hy => h y (List.mem_cons_of_mem _ hy))]
theorem tick1_key {now : Int} {x y : Int × Ev} (h : tick1 now x = some y) : y.1 = x.1 := by
  obtain ⟨k, v⟩ := x
  unfold tick1 at h
  cases v with
  | inc held sent first last =>
    dsimp only at h
    split at h
    · split at h
      · cases h; rfl
      · cases h
    · cases h; rfl
  | res mac since used =>
    dsimp only at h
    split at h
    · cases h
    · cases h; rfl
/-- the entries when the keys S have been treated -/
def tickP (now : Int) (S : List Int) (A : AL) : AL := A.filterMap fun x => if x.1 ∈ S then tick1 now x else some x
theorem tickP_nil (now : Int) (A : AL) : tickP now [] A = A := by
  unfold tickP
  simp
theorem tickP_all {now : Int} {S : List Int} {A : AL} (h : ∀ x ∈ A, x.1 ∈ S) : tickP now S A = A.filterMap (tick1 now) := by
  unfold tickP
  apply fm_congr
  intro x hx
  rw [if_pos (h x hx)]
theorem tickP_snoc {now : Int} {S : List Int} {k : Int} (A : AL) (h : k ∉ S) : tickP now (S ++ [k]) A = (tickP now S A).filterMap fun x => if x.1 = k then tick1 now x else some x := by
  unfold tickP
  rw [List.filterMap_filterMap]
  apply fm_congr
  intro x hx
  by_cases h1 : x.1 ∈ S
  · rw [if_pos h1, if_pos (by simp [h1])]
    cases ht : tick1 now x with
    | none => rfl
    | some y =>
      have := tick1_key ht
      have hne : ¬ y.1 = k := fun e => h (by rw [← e, this]; exact h1)
      show _ = (if y.1 = k then tick1 now y else some y)
      rw [if_neg hne]
  · rw [if_neg h1]
    show _ = (if x.1 = k then tick1 now x else some x)
    by_cases h2 : x.1 = k
    · rw [if_pos h2, if_pos (by simp [h2])]
    · rw [if_neg h2, if_neg (by simp [h1, h2])]
theorem look_mem {A : AL} {k : Int} {v : Ev} (h : look A k = some v) : (k, v) ∈ A := by
  unfold look at h
  obtain ⟨x, hx, rfl⟩ := Option.map_eq_some_iff.1 h
  have h1 := List.find?_some hx
  have h2 := List.mem_of_find?_eq_some hx
  have h3 : x.1 = k := by simpa using h1
  subst h3; exact h2
theorem look_of_mem : ∀ {A : AL} {k : Int} {v : Ev}, (A.map (·.1)).Nodup → (k, v) ∈ A → look A k = some v
  | [], _, _, _, h => by cases h
  | x :: A, k, v, hn, h => by
    unfold look
    rw [List.find?_cons]
    rw [List.map_cons, List.nodup_cons] at hn
    rcases List.mem_cons.1 h with h | h
    · subst h; simp
    · have hne : ¬ x.1 = k := fun e => hn.1 (by rw [e]; exact List.mem_map.2 ⟨_, h, rfl⟩)
      have : decide (x.1 = k) = false := decide_eq_false hne
      simp only [this]
      exact look_of_mem hn.2 h
theorem look_uniq {A : AL} (hn : (A.map (·.1)).Nodup) {k : Int} {v : Ev} (h : look A k = some v) {x : Int × Ev} (hx : x ∈ A) (e : x.1 = k) : x = (k, v) := by
  obtain ⟨k', v'⟩ := x
  dsimp only at e; subst e
  have := look_of_mem hn hx
  rw [h] at this; cases this; rfl
theorem one_keep {now : Int} {A : AL} (hn : (A.map (·.1)).Nodup) {k : Int} {v : Ev} (h : look A k = some v) (h1 : tick1 now (k, v) = some (k, v)) : (A.filterMap fun x => if x.1 = k then tick1 now x else some x) = A := by
  have : (A.filterMap fun x => if x.1 = k then tick1 now x else some x) = A.filterMap some := by
    apply fm_congr
    intro x hx
    by_cases q : x.1 = k
    · rw [if_pos q, look_uniq hn h hx q, h1]
    · rw [if_neg q]
  rw [this, List.filterMap_some]
theorem one_set {now : Int} {A : AL} (hn : (A.map (·.1)).Nodup) {k : Int} {v v' : Ev} (h : look A k = some v) (h1 : tick1 now (k, v) = some (k, v')) : (A.filterMap fun x => if x.1 = k then tick1 now x else some x) = upd A k v' := by
  unfold upd
  rw [← List.filterMap_eq_map]
  apply fm_congr
  intro x hx
  by_cases q : x.1 = k
  · rw [if_pos q, look_uniq hn h hx q, h1]; simp
  · rw [if_neg q]; simp [q]
theorem erase_key : ∀ {A : AL} {j : Nat} {k : Int} {v : Ev}, (A.map (·.1)).Nodup → A[j]? = some (k, v) → A.eraseIdx j = A.filter fun x => decide (x.1 ≠ k)
  | [], _, _, _, _, h => by simp at h
  | x :: A, 0, k, v, hn, h => by
    simp at h; subst h
    rw [List.map_cons, List.nodup_cons] at hn
    rw [List.eraseIdx_cons_zero, List.filter_cons_of_neg (by simp)]
    symm
    rw [List.filter_eq_self]
    intro y hy
    have : y.1 ≠ k := fun e => hn.1 (by rw [← e]; exact List.mem_map.2 ⟨_, hy, rfl⟩)
    simpa using this
  | x :: A, j + 1, k, v, hn, h => by
    rw [List.map_cons, List.nodup_cons] at hn
    have hm : (k, v) ∈ A := List.mem_of_getElem? (by simpa using h)
    have hne : x.1 ≠ k := fun e => hn.1 (by rw [e]; exact List.mem_map.2 ⟨_, hm, rfl⟩)
    rw [List.eraseIdx_cons_succ, List.filter_cons_of_pos (by simpa using hne), erase_key hn.2 (by simpa using h)]
theorem one_del {now : Int} {A : AL} (hn : (A.map (·.1)).Nodup) {k : Int} {v : Ev} {j : Nat} (hj : A[j]? = some (k, v)) (h1 : tick1 now (k, v) = none) : (A.filterMap fun x => if x.1 = k then tick1 now x else some x) = A.eraseIdx j := by
  have h : look A k = some v := look_of_mem hn (List.mem_of_getElem? hj)
  rw [erase_key hn hj, ← List.filterMap_eq_filter]
  apply fm_congr
  intro x hx
  by_cases q : x.1 = k
  · rw [if_pos q, look_uniq hn h hx q, h1]; simp [Option.guard]
  · rw [if_neg q]; simp [Option.guard, q]
theorem look_tickP {now : Int} {S : List Int} {A : AL} (_ : (A.map (·.1)).Nodup) {k : Int} {v : Ev} (h : look A k = some v) (hk : k ∉ S) : (k, v) ∈ tickP now S A := by
  unfold tickP
  rw [List.mem_filterMap]
  exact ⟨(k, v), look_mem h, by rw [if_neg hk]⟩
theorem abs_erase (L : List En) (j : Nat) : absL (L.eraseIdx j) = (absL L).eraseIdx j := map_erase _ _ _
theorem ord_take {L : List En} {i : Nat} {e : En} (he : (ordL L)[i]? = some e) : (absL (ordL L)).take (i + 1) = (absL (ordL L)).take i ++ [(e.k, e.v)] := by
  have h : (absL (ordL L))[i]? = some (e.k, e.v) := by unfold absL; rw [List.getElem?_map, he]; rfl
  rw [List.take_add_one, h]; rfl
theorem sort_take {L : List En} {i : Nat} {e : En} (he : (ordL L)[i]? = some e) : (sortK L).take (i + 1) = (sortK L).take i ++ [e.k] := by
  have h : (sortK L)[i]? = some e.k := by rw [← ordL_keys, List.getElem?_map, he]; rfl
  rw [List.take_add_one, h]; rfl
theorem sortK_nodup {L : List En} (h : (L.map (·.k)).Nodup) : (sortK L).Nodup := (List.mergeSort_perm _ _).nodup_iff.2 h
theorem sort_not {L : List En} (h : (L.map (·.k)).Nodup) {i : Nat} {e : En} (he : (ordL L)[i]? = some e) : e.k ∉ (sortK L).take i := by
  intro hm
  have h2 := sort_take he
  have h3 : ((sortK L).take (i + 1)).Nodup := (sortK_nodup h).sublist (List.take_sublist _ _)
  rw [h2, List.nodup_append] at h3
  exact h3.2.2 _ hm _ (by simp) rfl
theorem ordL_look {L : List En} (hn : (L.map (·.k)).Nodup) {i : Nat} {e : En} (he : (ordL L)[i]? = some e) : look (absL L) e.k = some e.v := by
  obtain ⟨j, hj⟩ := List.mem_iff_getElem?.1 (ordL_mem (List.mem_of_getElem? he))
  exact look_at hn hj
theorem abs_keys (L : List En) : (absL L).map (·.1) = L.map (·.k) := by unfold absL; rw [List.map_map]; rfl
end Go.Proofs.YtmgjcjacoegocaaDoor.Ar
