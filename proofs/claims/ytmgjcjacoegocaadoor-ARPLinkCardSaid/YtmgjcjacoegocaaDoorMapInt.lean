/-
  Maps with int keys as plain lookups; a region that draws its order, shown by an invariant. No program in sight.
-/
import Derived.Test.YtmgjcjacoegocaaDoorBase1
import Derived.MapKept
import Derived.Orders
namespace Go.Proofs.YtmgjcjacoegocaaDoor.Wire
set_option maxRecDepth 100000
open Go.RowKit

/-- a region that draws its order: an invariant on what has come up, the frame and the world -/
theorem wpAny_inv {P : Program} {md : Region.Mode} {ops : Array Oper} {Q : Exit → Act → World → Prop} (I : Array Bool → Act → World → Prop)
    (hdone : ∀ l a w, I l a w → Region.ready md ops l = [] → Q .normal a w)
    (hstep : ∀ l a w i, I l a w → i ∈ Region.ready md ops l → wpOp P ops Q i (I (l.setIfInBounds i true)) a w) :
    ∀ (fuel : Nat) (l : Array Bool) (a : Act) (w : World), (l.toList.filter (! ·)).length ≤ fuel → I l a w → wpAny P md ops Q fuel l a w
  | 0, l, a, w, hf, h => by
    have h0 : Region.ready md ops l = [] := by
      apply List.eq_nil_iff_forall_not_mem.2
      intro i hi
      have hu := (mem_ready.1 hi).1
      have hm : false ∈ l.toList.filter (! ·) := by
        rw [List.mem_filter]
        refine ⟨?_, rfl⟩
        rcases Nat.lt_or_ge i l.size with c | c
        · rw [Array.getD_eq_getD_getElem?, Array.getElem?_eq_getElem c] at hu
          have : l[i] = false := by simpa using hu
          rw [← this]
          exact Array.mem_toList_iff.2 (Array.getElem_mem c)
        · rw [Array.getD_eq_getD_getElem?, Array.getElem?_eq_none c] at hu
          simp at hu
      have := List.length_pos_of_mem hm
      omega
    exact ⟨h0, hdone l a w h h0⟩
  | fuel + 1, l, a, w, hf, h => by
    refine ⟨hdone l a w h, fun i hi => ?_⟩
    refine wpOp_mono (fun a' w' h' => wpAny_inv I hdone hstep fuel _ a' w' ?_ h') (hstep l a w i h hi)
    have hu := (mem_ready.1 hi).1
    have hlt : i < l.size := by
      rcases Nat.lt_or_ge i l.size with c | c
      · exact c
      · rw [Array.getD_eq_getD_getElem?, Array.getElem?_eq_none c] at hu
        simp at hu
    have hv : l.toList[i]'hlt = false := by
      rw [Array.getD_eq_getD_getElem?, Array.getElem?_eq_getElem hlt] at hu
      simpa using hu
    have e : (l.setIfInBounds i true).toList = l.toList.set i true := by simp
    rw [e]
    have key : ∀ (m : List Bool) (j : Nat) (hj : j < m.length), m[j] = false → ((m.set j true).filter (! ·)).length + 1 = (m.filter (! ·)).length := by
      intro m
      induction m with
      | nil => intro j hj; simp at hj
      | cons x m ih =>
        intro j hj hx
        cases j with
        | zero =>
          have : x = false := by simpa using hx
          subst this
          simp
        | succ j =>
          have := ih j (by simpa using hj) (by simpa using hx)
          cases x <;> simp at this ⊢ <;> omega
    have := key l.toList i hlt hv
    omega

def isI64 : Value → Prop | .int .i64 _ => True | _ => False
def keyIs (k : Int) (e : MapEntry) : Bool := match e.key with | .int .i64 a => k == a | _ => false
def lookL (l : List MapEntry) (k : Int) : Option Value := (l.find? (keyIs k)).map (·.val)
def IntKeys (es : Array MapEntry) : Prop := ∀ x ∈ es.toList, ∃ a, x.key = .int .i64 a
theorem findNow_int (k : Int) : ∀ (l : List MapEntry) (i : Nat), (∀ x ∈ l, ∃ a, x.key = .int .i64 a) →
    (∃ j v, Instr.findNow (.int .i64) (.int .i64 k) l i = some (some (j, v)) ∧ lookL l k = some v) ∨ (Instr.findNow (.int .i64) (.int .i64 k) l i = some none ∧ lookL l k = none)
  | [], i, _ => Or.inr ⟨rfl, rfl⟩
  | x :: l, i, h => by
    obtain ⟨a, ha⟩ := h x (List.mem_cons_self ..)
    by_cases hk : k = a
    · subst hk
      exact Or.inl ⟨i, x.val, by simp [Instr.findNow, Instr.sameNow, ha], by simp [lookL, keyIs, ha]⟩
    · have hb : (k == a) = false := by simpa using hk
      have e1 : Instr.findNow (.int .i64) (.int .i64 k) (x :: l) i = Instr.findNow (.int .i64) (.int .i64 k) l (i + 1) := by simp [Instr.findNow, Instr.sameNow, ha, hb]
      have e2 : lookL (x :: l) k = lookL l k := by simp [lookL, keyIs, ha, hb]
      rw [e1, e2]
      exact findNow_int k l (i + 1) (fun y hy => h y (List.mem_cons_of_mem _ hy))
theorem look_push (es : Array MapEntry) (k a : Int) (v : Value) (b : Nat) (h : lookL es.toList k = none ∨ k ≠ a) :
    lookL (es.push { key := .int .i64 a, val := v, born := b }).toList k = if k = a then some v else lookL es.toList k := by
  unfold lookL at *
  rw [Array.toList_push, List.find?_append]
  by_cases hk : k = a
  · subst hk
    rcases h with h | h
    · rw [Option.map_eq_none_iff] at h
      simp [h, keyIs]
    · exact absurd rfl h
  · rw [if_neg hk]
    have : keyIs k { key := .int .i64 a, val := v, born := b } = false := by simpa [keyIs] using hk
    cases hf : List.find? (keyIs k) es.toList <;> simp [this]
theorem intKeys_push {es : Array MapEntry} (h : IntKeys es) (a : Int) (v : Value) (b : Nat) : IntKeys (es.push { key := .int .i64 a, val := v, born := b }) := by
  intro x hx
  rw [Array.toList_push, List.mem_append] at hx
  rcases hx with hx | hx
  · exact h x hx
  · simp at hx; subst hx; exact ⟨a, rfl⟩
theorem intKeys_nil : IntKeys #[] := fun x hx => by simp at hx
/-- a lookup -/
theorem run_lookup_int {P : Program} {W : World} {t K E : TypeId} {r clk : Nat} {es : Array MapEntry} {z : Value} (k : Int) (c : Bool) (ht : P.underlying t = some (.map K E)) (hK : P.underlying K = some (.int .i64))
    (hz : (zeroValue E).run P W = .ok z W) (hb : W.heap[r]? = some (.map es clk)) (hk : IntKeys es) :
    (Instr.lookup t (.map (some r)) (.int .i64 k) c).run P W = .ok (if c then .tuple #[(lookL es.toList k).getD z, .bool (lookL es.toList k).isSome] else (lookL es.toList k).getD z) W := by
  unfold Instr.lookup
  simp only [Sem.run_bind, run_underlying ht, Result.andThen, Go.MapKept.run_getObj_map hb, Go.MapKept.run_checkKey hK (show Go.MapKept.IsKey (.int .i64) (.int .i64 k) from rfl)]
  rcases findNow_int k es.toList 0 hk with ⟨j, v, h1, h2⟩ | ⟨h1, h2⟩
  · simp [Go.MapKept.run_findKey hK h1, h2]
  · simp [Go.MapKept.run_findKey hK h1, h2, hz, Result.andThen]
/-- a new key -/
theorem run_update_new {P : Program} {W : World} {t K E : TypeId} {r clk : Nat} {es : Array MapEntry} (k : Int) (v : Value) (ht : P.underlying t = some (.map K E)) (hK : P.underlying K = some (.int .i64))
    (hb : W.heap[r]? = some (.map es clk)) (hk : IntKeys es) (hn : lookL es.toList k = none) :
    (Instr.mapUpdate t (.map (some r)) (.int .i64 k) v).run P W = .ok () { W with heap := W.heap.setIfInBounds r (.map (es.push { key := .int .i64 k, val := v, born := clk }) (clk + 1)) } := by
  rcases findNow_int k es.toList 0 hk with ⟨j, u, h1, h2⟩ | ⟨h1, h2⟩
  · rw [hn] at h2; cases h2
  · unfold Instr.mapUpdate
    simp [run_underlying ht, Go.MapKept.run_getObj_map hb, Go.MapKept.run_checkKey hK (show Go.MapKept.IsKey (.int .i64) (.int .i64 k) from rfl), Go.MapKept.run_findKey hK h1, Go.MapKept.run_setObj_map _ hb, Result.andThen]
theorem below_setObj {B : Nat} {w W : World} (h : Below B w W) {r : Nat} (hr : B ≤ r) (o : Obj) : Below B w { W with heap := W.heap.setIfInBounds r o } :=
  ⟨h.os, h.tape, h.output, by simpa using h.size, fun k hk => by
    show (W.heap.setIfInBounds r o)[k]? = _
    rw [Array.getElem?_setIfInBounds_ne (by omega)]
    exact h.block k hk⟩
theorem block_setObj {W : World} {b r : Nat} {x o : Obj} (h : W.heap[b]? = some x) (hne : b ≠ r) : ({ W with heap := W.heap.setIfInBounds r o } : World).heap[b]? = some x := by
  show (W.heap.setIfInBounds r o)[b]? = _
  rw [Array.getElem?_setIfInBounds_ne (fun e => hne e.symm)]
  exact h
theorem block_setObj_same {W : World} {r : Nat} {x o : Obj} (h : W.heap[r]? = some x) : ({ W with heap := W.heap.setIfInBounds r o } : World).heap[r]? = some o := by
  show (W.heap.setIfInBounds r o)[r]? = _
  rw [Array.getElem?_setIfInBounds_self, if_pos (blk_lt h)]
end Go.Proofs.YtmgjcjacoegocaaDoor.Wire
