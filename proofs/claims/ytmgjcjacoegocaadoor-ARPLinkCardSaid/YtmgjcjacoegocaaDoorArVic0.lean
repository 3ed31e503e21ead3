/-
  What victim and Tick compute, over entries as plain data in the order of their addresses.
-/
import Derived.Test.YtmgjcjacoegocaaDoorArOrd2
import Derived.Test.YtmgjcjacoegocaaDoorArOne
namespace Go.Proofs.YtmgjcjacoegocaaDoor.Ar
set_option maxRecDepth 100000
open Go.RowKit Go.Proofs.YtmgjcjacoegocaaDoor.Wire
/-- the entries in the order of their addresses -/
def ordA (A : AL) : AL := ((A.map (·.1)).mergeSort leI).filterMap fun k => (look A k).map fun v => (k, v)
/-- the eviction's choice so far: address, time, whether an incomplete one was seen -/
def vicStep (s : Int × Int × Bool) (x : Int × Ev) : Int × Int × Bool :=
  match x.2 with
  | .inc _ _ first _ => if s.2.2 = false ∨ first < s.2.1 then (x.1, first, true) else s
  | .res _ _ used => if s.1 = 0 ∨ (s.2.2 = false ∧ used < s.2.1) then (x.1, used, s.2.2) else s
def vicA (A : AL) : Int := ((ordA A).foldl vicStep (0, 0, false)).1
theorem sortK_abs (L : List En) : sortK L = ((absL L).map (·.1)).mergeSort leI := by unfold sortK absL; simp [List.map_map, Function.comp_def]
theorem ord_map (A : AL) : (ordA A).map (·.1) = (A.map (·.1)).mergeSort leI := by
  unfold ordA
  rw [List.map_filterMap]
  have : ∀ l : List Int, (∀ k ∈ l, (look A k).isSome) → l.filterMap (fun k => ((look A k).map fun v => (k, v)).map (·.1)) = l := by
    intro l
    induction l with
    | nil => intro _; rfl
    | cons k l ih =>
      intro h
      obtain ⟨v, hv⟩ := Option.isSome_iff_exists.1 (h k (List.mem_cons_self ..))
      simp only [List.filterMap_cons, hv, Option.map_some]
      rw [ih (fun q hq => h q (List.mem_cons_of_mem _ hq))]
  apply this
  intro k hk
  have hk' : k ∈ A.map (·.1) := (List.mergeSort_perm _ _).mem_iff.1 hk
  obtain ⟨x, hx, rfl⟩ := List.mem_map.1 hk'
  unfold look
  rw [Option.isSome_map, List.find?_isSome]
  exact ⟨x, hx, by simp⟩
/-- the entries with their blocks, in the order of their addresses -/
def ordL (L : List En) : List En := (sortK L).filterMap fun k => L.find? fun e => decide (e.k = k)
theorem fm_map {α β : Type} (g : α → Option β) (f : β → α) : ∀ l : List α, (∀ a ∈ l, ∃ b, g a = some b ∧ f b = a) → (l.filterMap g).map f = l
  | [], _ => rfl
  | a :: l, h => by
    obtain ⟨b, h1, h2⟩ := h a (List.mem_cons_self ..)
    rw [List.filterMap_cons, h1]
    simp only [List.map_cons, h2, fm_map g f l (fun x hx => h x (List.mem_cons_of_mem _ hx))]
theorem find_key1 {L : List En} {k : Int} (hk : k ∈ L.map (·.k)) : ∃ e, L.find? (fun e => decide (e.k = k)) = some e ∧ e.k = k := by
  obtain ⟨x, hx, hk⟩ := List.mem_map.1 hk
  obtain ⟨e, he⟩ := Option.isSome_iff_exists.1 (List.find?_isSome.2 ⟨x, hx, by simpa using hk⟩ : (L.find? (fun e => decide (e.k = k))).isSome)
  exact ⟨e, he, by have := List.find?_some he; simpa using this⟩
theorem sortK_mem {L : List En} {k : Int} : k ∈ sortK L ↔ k ∈ L.map (·.k) := (List.mergeSort_perm _ _).mem_iff
theorem ordL_keys (L : List En) : (ordL L).map (·.k) = sortK L := fm_map _ _ _ (fun _ hk => find_key1 (sortK_mem.1 hk))
theorem ordL_mem {L : List En} {e : En} (h : e ∈ ordL L) : e ∈ L := by
  obtain ⟨k, -, h2⟩ := List.mem_filterMap.1 h
  exact List.mem_of_find?_eq_some h2
theorem ordL_abs (L : List En) : absL (ordL L) = ordA (absL L) := by
  unfold ordA
  rw [← sortK_abs]
  unfold ordL
  induction sortK L with
  | nil => rfl
  | cons k l ih =>
    have hl : look (absL L) k = (L.find? fun e => decide (e.k = k)).map (·.v) := by
      unfold look absL
      rw [List.find?_map, Option.map_map]; rfl
    rw [List.filterMap_cons, List.filterMap_cons, hl]
    cases hf : L.find? fun e => decide (e.k = k) with
    | none => exact ih
    | some e =>
      have he : e.k = k := by have := List.find?_some hf; simpa using this
      show (e.k, e.v) :: absL _ = (k, e.v) :: _
      rw [he, ← ih]
theorem ordL_len (L : List En) : (ordL L).length = L.length := by
  have h := congrArg List.length (ordL_keys L)
  rw [List.length_map] at h
  rw [h]; unfold sortK; rw [List.length_mergeSort, List.length_map]
theorem ordL_at {L : List En} {i : Nat} {k : Int} (h : (sortK L)[i]? = some k) : ∃ e, (ordL L)[i]? = some e ∧ e.k = k := by
  rw [← ordL_keys, List.getElem?_map] at h
  cases he : (ordL L)[i]? with
  | none => rw [he] at h; cases h
  | some e => rw [he] at h; exact ⟨e, rfl, by simpa using h⟩
end Go.Proofs.YtmgjcjacoegocaaDoor.Ar
