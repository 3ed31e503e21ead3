/-
  The map of entries as the contracts of maps.Keys read it: its keys are the keys of the table, in some order.
-/
import Derived.Test.YtmgjcjacoegocaaDoorArTab
import Derived.Maps.OwnSet
import Derived.Lib.SlKeysI
namespace Go.Proofs.YtmgjcjacoegocaaDoor.Ar
set_option maxRecDepth 100000
open Go.RowKit Go.Proofs.YtmgjcjacoegocaaDoor.Wire Go.WideElems
/-- how an entry's value is read: not at all -/
def R0 : Value → Option (DataW Unit × List MemPlace) := fun _ => some (.nil, [])
theorem rd_key0 (k : Int) (hk : In64 k) (v : Value) (b : Nat) : rd Tryd.prog 3 R0 ({ key := .int .i64 k, val := v, born := b } : MapEntry) = some ((.int .i64 k : Lit), .nil) := by
  have : keyOf Tryd.prog 3 (.int .i64 k) = some (.int .i64 k) := Go.Maps.keyOf_int_mk Tryd.underlying3 (by have h1 : IntKind.i64.min = -9223372036854775808 := rfl; have h2 : IntKind.i64.max = 9223372036854775807 := rfl; simp only [Lit.wf, h1, h2, Bool.and_eq_true, decide_eq_true_eq]; exact hk)
  unfold rd
  rw [this]; rfl
theorem keys_read : ∀ (l : List MapEntry) (ks : List Int), l.map (·.key) = ks.map (fun k => Value.int .i64 k) → (∀ k ∈ ks, In64 k) → (∀ x ∈ l, ∃ y, rd Tryd.prog 3 R0 x = some y) ∧ (l.map (rg Tryd.prog 3 R0)).map (fun p => intOf p.1) = ks
  | [], [], _, _ => ⟨fun _ h => (nomatch h), rfl⟩
  | [], _ :: _, h, _ => by simp at h
  | _ :: _, [], h, _ => by simp at h
  | ⟨x, v, b⟩ :: l, k :: ks, h, hk => by
    simp only [List.map_cons, List.cons.injEq] at h
    obtain ⟨rfl, h⟩ := h
    obtain ⟨i1, i2⟩ := keys_read l ks h (fun q hq => hk q (List.mem_cons_of_mem _ hq))
    have r := rd_key0 k (hk k (List.mem_cons_self ..)) v b
    refine ⟨fun y hy => ?_, ?_⟩
    · rcases List.mem_cons.1 hy with rfl | hy
      · exact ⟨_, r⟩
      · exact i1 y hy
    · simp only [List.map_cons, i2, List.cons.injEq, and_true]
      unfold rg
      rw [r]; rfl
theorem Tab.owns {W : World} {T r clk : Nat} {es : Array MapEntry} {c : Tc} {L : List En} (h : Tab W T (some r) es clk c L) (hk : ∀ e ∈ L, In64 e.k) (hL : L.length ≤ 1000) :
    ∃ D : DataW Unit, W.ownsMap Tryd.prog 3 R0 r 1000 D ∧ (intKeys D).Perm (L.map (·.k)) ∧ Go.Maps.size D = L.length := by
  have he := h.ents (by simp)
  have hst := h.stamp (by simp)
  have hm : W.heap[r]? = some (.map es clk) := by
    rcases h.map with ⟨q, -⟩ | ⟨_, q, hm, -⟩
    · cases q
    · cases q; exact hm
  obtain ⟨k1, k2⟩ := keys_read es.toList (L.map (·.k)) he.1 (by intro k hkk; obtain ⟨e, hm, rfl⟩ := List.mem_map.1 hkk; exact hk e hm)
  have hsz : es.size = L.length := by have := congrArg List.length he.1; simpa using this
  have hnk : (es.toList.map (·.key)).Nodup := by
    rw [he.1]
    exact List.Pairwise.map _ (fun a b (hab : a ≠ b) q => hab (by injection q)) h.nod
  refine ⟨_, ⟨es, clk, hm, ⟨by rw [hsz]; unfold maxLen; omega, ⟨hst.1, hst.2, hnk⟩, k1⟩, by omega, rfl⟩, ?_, ?_⟩
  · show List.Perm (((es.toList.map (rg Tryd.prog 3 R0)).foldr DataW.insert []).map fun p => intOf p.1) _
    rw [← k2]
    exact (Go.WideShapes.sorted_perm _).map _
  · show ((es.toList.map (rg Tryd.prog 3 R0)).foldr DataW.insert []).length = _
    rw [DataW.length_sorted, List.length_map, Array.length_toList, hsz]
end Go.Proofs.YtmgjcjacoegocaaDoor.Ar
