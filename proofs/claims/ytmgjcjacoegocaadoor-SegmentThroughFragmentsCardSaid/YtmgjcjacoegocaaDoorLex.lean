/-
  A region that draws its order and only reads: a cheaper test that the order of the text is one that may be taken. No program in sight.
-/
import Derived.Deep.Quiet
import Derived.Deep.QuietTactic
import Derived.BigQuiet
namespace Go.Proofs.YtmgjcjacoegocaaDoor.Wire
set_option maxRecDepth 100000

/-- no operation waits for a later one -/
def edgesB : Nat → List Oper → Bool
  | _, [] => true
  | k, o :: r => (o.after.all fun e => !Region.binds .any e || decide (e.on < k)) && edgesB (k + 1) r
/-- each operation is apart from every later one that does not wait for it -/
def pairsB (ops : Array Oper) : Nat → List Oper → Bool
  | _, [] => true
  | k, o :: r => (r.all fun oj => oj.after.any (fun e => Region.binds .any e && e.on == k) || o.apart ops oj) && pairsB ops (k + 1) r
theorem edgesB_at : ∀ (l : List Oper) (b : Nat), edgesB b l = true → ∀ (k : Nat) (o : Oper), l[k]? = some o → ∀ e ∈ o.after, Region.binds .any e = true → e.on < b + k
  | [], _, _, k, o, ho => by simp at ho
  | x :: r, b, h, 0, o, ho => by
    simp only [List.getElem?_cons_zero, Option.some.injEq] at ho
    subst ho
    simp only [edgesB, Bool.and_eq_true] at h
    intro e he hb
    have := Array.all_eq_true'.1 h.1 e he
    simp [hb] at this
    omega
  | x :: r, b, h, k + 1, o, ho => by
    simp only [edgesB, Bool.and_eq_true] at h
    intro e he hb
    have := edgesB_at r (b + 1) h.2 k o (by simpa using ho) e he hb
    omega
theorem pairsB_at (ops : Array Oper) : ∀ (l : List Oper) (b : Nat), pairsB ops b l = true → ∀ (k j : Nat) (o oj : Oper), k < j → l[k]? = some o → l[j]? = some oj → (oj.after.any (fun e => Region.binds .any e && e.on == b + k) || o.apart ops oj) = true
  | [], _, _, k, j, o, oj, _, ho, _ => by simp at ho
  | x :: r, b, h, 0, j, o, oj, hj, ho, hoj => by
    simp only [List.getElem?_cons_zero, Option.some.injEq] at ho
    subst ho
    simp only [pairsB, Bool.and_eq_true] at h
    obtain ⟨i, rfl⟩ : ∃ i, j = i + 1 := ⟨j - 1, by omega⟩
    have hm : oj ∈ r := List.mem_of_getElem? (by simpa using hoj)
    exact List.all_eq_true.1 h.1 oj hm
  | x :: r, b, h, k + 1, j, o, oj, hj, ho, hoj => by
    simp only [pairsB, Bool.and_eq_true] at h
    obtain ⟨i, rfl⟩ : ∃ i, j = i + 1 := ⟨j - 1, by omega⟩
    have := pairsB_at ops r (b + 1) h.2 k i o oj (by omega) (by simpa using ho) (by simpa using hoj)
    rw [show b + (k + 1) = b + 1 + k from by omega]
    exact this
theorem lexFrom_of (l : List Oper) (hE : edgesB 0 l = true) (hF : pairsB l.toArray 0 l = true) : ∀ (fuel k : Nat) (listed : Array Bool), k + fuel = l.length → (∀ j d, j < l.length → listed.getD j d = decide (j < k)) → listed.size = l.length → Region.lexFrom .any l.toArray fuel k listed = true
  | 0, k, listed, hk, hl, _ => by
    simp only [Region.lexFrom, Region.ready, List.isEmpty_iff, List.filter_eq_nil_iff, List.mem_range, List.size_toArray]
    intro i hi
    rw [hl i true hi]
    simp; omega
  | fuel + 1, k, listed, hk, hl, hz => by
    have hkl : k < l.length := by omega
    obtain ⟨o, ho⟩ : ∃ o, l[k]? = some o := ⟨l[k], List.getElem?_eq_getElem hkl⟩
    simp only [Region.lexFrom, Bool.and_eq_true]
    refine ⟨⟨?_, ?_⟩, ?_⟩
    · rw [List.contains_iff_mem]
      simp only [Region.ready, List.mem_filter, List.mem_range, List.size_toArray, Bool.and_eq_true]
      refine ⟨hkl, by rw [hl k true hkl]; simp, ?_⟩
      have : l.toArray[k]? = some o := by simpa using ho
      rw [this]
      simp only [Option.map_some, Option.getD_some]
      rw [Array.all_eq_true']
      intro e he
      by_cases hb : Region.binds .any e = true
      · have := edgesB_at l 0 hE k o ho e he hb
        rw [hl e.on false (by omega)]
        simp; omega
      · simp [hb]
    · unfold Region.free
      have : l.toArray[k]? = some o := by simpa using ho
      rw [this]
      simp only [List.all_eq_true, List.mem_range, List.size_toArray]
      intro j hj
      rw [hl j true hj]
      rcases Nat.lt_trichotomy j k with c | c | c
      · simp [c]
      · simp [c]
      · obtain ⟨oj, hoj⟩ : ∃ oj, l[j]? = some oj := ⟨l[j], List.getElem?_eq_getElem hj⟩
        have h2 : l.toArray[j]? = some oj := by simpa using hoj
        have h3 := pairsB_at l.toArray l 0 hF k j o oj c ho hoj
        rw [Nat.zero_add] at h3
        rw [h2]
        simp only [h3, Bool.or_true]
    · refine lexFrom_of l hE hF fuel (k + 1) _ (by omega) (fun j d hj => ?_) (by simpa using hz)
      have h1 := hl j d hj
      by_cases e : k = j
      · subst e
        simp [Array.getD, hz, hj]
      · simp only [Array.getD_eq_getD_getElem?, Array.getElem?_setIfInBounds] at h1 ⊢
        rw [if_neg e, h1]
        by_cases c : j < k
        · simp [c]; omega
        · simp [c]; omega
theorem lexB_of (l : List Oper) (hS : Region.noSelect l.toArray = true) (hE : edgesB 0 l = true) (hF : pairsB l.toArray 0 l = true) : Region.lexB .any l.toArray = true := by
  unfold Region.lexB
  rw [hS, Bool.true_and]
  exact lexFrom_of l hE hF _ 0 _ (by simp) (fun j d hj => by simp [hj]) (by simp)
theorem wp_region_quiet_big {P : Program} {id : Nat} {Q : Exit → Act → World → Prop} {a : Act} {w : World} {l : List Oper} (hm : P.follows .mixedOrders = true) (hS : Region.noSelect l.toArray = true) (hE : edgesB 0 l = true) (hF : pairsB l.toArray 0 l = true)
    (h : wpQuiet P l.toArray (fun w' => ∃ n, w' = w.drewN n) (fun a' => ∀ w', (∃ n, w' = w.drewN n) → Q .normal a' w') l a) : (Code.region id l.toArray true).wp P Q a w :=
  wp_region_quiet_lit hm (lexB_of l hS hE hF) h
end Go.Proofs.YtmgjcjacoegocaaDoor.Wire
