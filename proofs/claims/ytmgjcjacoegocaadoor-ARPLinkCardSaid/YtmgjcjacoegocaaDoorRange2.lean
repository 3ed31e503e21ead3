/-
  A range over a function whose iterator and whose rounds change memory of their own: what is named about the states need abide a turn of the loop's own record alone. No program in sight.
-/
import Derived.Test.YtmgjcjacoegocaaDoorRange
namespace Go.Proofs.YtmgjcjacoegocaaDoor.Wire
set_option maxRecDepth 100000
open Go.RowKit

/-- stable when the loop's own record turns -/
def PutAt (l : Nat) (J : World → Prop) : Prop := ∀ W o, J W → J (World.putObj W l o)
/-- how a round may be left: the loop's own two blocks stand -/
def roundWay2 (b : Nat) (J' : World → Prop) (Jx : Code → World → Prop) (W : World) : Exit → Act → World → Prop
  | .normal, _, W' => (W'.heap[b]? = W.heap[b]? ∧ W'.heap[b + 1]? = W.heap[b + 1]?) ∧ J' W'
  | .ret, _, W' => (W'.heap[b]? = W.heap[b]? ∧ W'.heap[b + 1]? = W.heap[b + 1]?) ∧ Jx .ret W'
  | .exit id, _, W' => (W'.heap[b]? = W.heap[b]? ∧ W'.heap[b + 1]? = W.heap[b + 1]?) ∧ Jx (.exit id) W'
  | .goto t, _, W' => (W'.heap[b]? = W.heap[b]? ∧ W'.heap[b + 1]? = W.heap[b + 1]?) ∧ Jx (.goto t) W'
  | _, _, _ => False
theorem wpIn_rangeFunc_at {ι : Type} {F : Fence} {n : Nat} {P : Program} {g : Operand} {ps : Array Tmp} {assign body : Code} {Q : Exit → Act → World → Prop} {a : Act} {w : World}
    (hro : F.round = none) (h1 : 1 ≤ n) {gf : Nat} {lb : Array Value} (hg : a.eval g = .func (.func gf) #[] lb) (hFg : F.fn gf) (eg : ∀ args w, (callFunc gf args).run P w = .ok (.enter gf args) w)
    (args : ι → Array Value) (hps : ∀ i, (args i).size = ps.size) (J0 : World → Prop) (J J' : ι → World → Prop) (Jx : Code → World → Prop) (JF : World → Prop)
    (hJ0 : ∀ o o', J0 ((w.alloc o).alloc o')) (hJ' : ∀ i, PutAt (w.heap.size + 1) (J' i)) (hJx : ∀ c, PutAt (w.heap.size + 1) (Jx c)) (hJF : PutAt (w.heap.size + 1) JF)
    (hiter : ∀ (l : Nat) (r : Loop) (W : World), w.heap.size ≤ l → J0 W → LoopK l r W →
      (∀ i W1, J i W1 → LoopK l r W1 → YieldAt F (n - 1 - 1) P (l + 1) (args i) W1 fun e W' =>
        (e = .returned (.bool true) ∧ J' i W' ∧ LoopK l r W') ∨ (e = .returned (.bool false) ∧ ∃ c, Jx c W' ∧ LoopK l { r with state := .done, pending := some c } W')) →
      CallsIn F (n - 1) P gf (#[.func (.yield (l + 1)) #[] #[]] ++ lb) W fun e W' => (∃ v, e = .returned v) ∧ ((JF W' ∧ LoopK l r W') ∨ ∃ c, Jx c W' ∧ LoopK l { r with state := .done, pending := some c } W'))
    (JA : ι → Act → World → Prop) (hJA : ∀ i a, PutAt (w.heap.size + 1) (JA i a))
    (hassign : ∀ (l : Nat) (i : ι) (W : World), J i W →
      assign.wpIn (F.inRound l) (n - 1 - 1) P (Exit.then (fun a' WA => (WA.heap[w.heap.size]? = W.heap[w.heap.size]? ∧ WA.heap[w.heap.size + 1]? = W.heap[w.heap.size + 1]?) ∧ JA i a' WA) (fun _ _ _ => False)) { tmps := (ps.zip (args i)).foldl (fun t (p, v) => t.setIfInBounds p v) a.tmps, defers := [] } W)
    (hbody : ∀ (l : Nat) (i : ι) (a' : Act) (W : World), JA i a' W → body.wpIn (F.inRound l) (n - 1 - 1) P (roundWay2 w.heap.size (J' i) Jx W) a' W)
    (hdone : ∀ (W : World), JF W → W.heap[w.heap.size]? = some (.deferred (some [])) → Q .normal { a with defers := { target := .collected w.heap.size, args := #[] } :: a.defers } W)
    (hstop : ∀ (c : Code) (W : World), Jx c W → W.heap[w.heap.size]? = some (.deferred (some [])) → c.wpIn F n P Q { a with defers := { target := .collected w.heap.size, args := #[] } :: a.defers } W) :
    (Code.rangeFunc g ps assign body).wpIn F n P Q a w := by
  refine wpIn_rangeFunc fun fn hfn => ?_
  rw [hro]
  obtain ⟨r, hr⟩ : ∃ r : Loop, r = { state := .ready, pending := none, fn, tmps := a.tmps, params := ps, assign, body, defers := w.heap.size } := ⟨_, rfl⟩
  refine ⟨w.heap.size + 1, [{ target := .collected w.heap.size, args := #[] }], (w.alloc (.deferred (some []))).alloc (.loop r), { target := .fn (.func gf) lb, args := #[.func (.yield (w.heap.size + 1)) #[] #[]] }, (w.alloc (.deferred (some []))).alloc (.loop r), gf, #[.func (.yield (w.heap.size + 1)) #[] #[]] ++ lb, (w.alloc (.deferred (some []))).alloc (.loop r), ?_, ?_, ?_, ?_, fun _ => h1, ?_⟩
  · rw [hr]; exact run_enterLoop_outer _ _ _ _ _
  · simp only [resolve, hg]; simp [go_sem]
  · intro f' hf'
    simp [Target.leads] at hf'
    subst hf'
    exact hFg
  · simp [invoke, go_sem, eg]
  have hrs : r.state = .ready := by rw [hr]
  have hrp : r.pending = none := by rw [hr]
  have hk0 : LoopK w.heap.size r ((w.alloc (.deferred (some []))).alloc (.loop r)) := ⟨alloc_new' _ _ _ (by simp), block_alloc (alloc_new _ _) _⟩
  refine (hiter w.heap.size r _ (Nat.le_refl _) (hJ0 _ _) hk0 ?_).mono ?_
  · intro i W1 hi hk
    have hy := run_yield (P := P) (args := args i) hk.1 (by rw [hr]; exact hps i)
    refine ⟨r.fn, _, r.assign, r.body, hy, ?_⟩
    have e1 : r.fn = fn := by rw [hr]
    have e2 : r.assign = assign := by rw [hr]
    have e3 : r.body = body := by rw [hr]
    have e4 : r.params = ps := by rw [hr]
    have e5 : r.tmps = a.tmps := by rw [hr]
    generalize hRR : (fun (e : Ending) (W' : World) => (e = .returned (.bool true) ∧ J' i W' ∧ LoopK w.heap.size r W') ∨ (e = .returned (.bool false) ∧ ∃ c, Jx c W' ∧ LoopK w.heap.size { r with state := .done, pending := some c } W')) = R
    rw [e1, e2, e3, e4, e5]
    refine roundIn_of_wpIn hfn (wpIn_mono (hassign _ i W1 hi) ?_)
    rintro e a1 WA hp
    cases e with
    | ret => exact hp.elim
    | exit id => exact hp.elim
    | goto t => exact hp.elim
    | panic ch => exact hp.elim
    | outgrown => exact hp.elim
    | normal =>
    obtain ⟨⟨hk1, hk2⟩, hja⟩ := hp
    have hkA : LoopK w.heap.size r WA := ⟨hk2.trans hk.1, hk1.trans hk.2⟩
    clear hk hi
    have hk := hkA
    refine ⟨_, run_beginRound hk.1 hrs, ?_⟩
    have hlt := blk_lt hk.1
    have hl2 : (WA.putObj (w.heap.size + 1) (.loop { r with state := .busy })).heap[w.heap.size + 1]? = some (.loop { r with state := .busy }) := World.putObj_heap_same hlt
    have hd2 : (WA.putObj (w.heap.size + 1) (.loop { r with state := .busy })).heap[w.heap.size]? = some (.deferred (some [])) := (World.putObj_heap_other (by omega)).trans hk.2
    refine wpIn_mono (hbody _ i _ _ (hJA i _ _ _ hja)) ?_
    have fin : ∀ (j : Option Code) (W3 : World), (W3.heap[w.heap.size]? = (WA.putObj (w.heap.size + 1) (.loop { r with state := .busy })).heap[w.heap.size]? ∧ W3.heap[w.heap.size + 1]? = (WA.putObj (w.heap.size + 1) (.loop { r with state := .busy })).heap[w.heap.size + 1]?) →
        (Instr.endRound (w.heap.size + 1) j).run P W3 = .ok (.bool j.isNone) (W3.putObj (w.heap.size + 1) (.loop { r with state := if j.isNone then .ready else .done, pending := j })) ∧
        LoopK w.heap.size { r with state := if j.isNone then .ready else .done, pending := j } (W3.putObj (w.heap.size + 1) (.loop { r with state := if j.isNone then .ready else .done, pending := j })) := fun j W3 k3 => by
      have h3 := k3.2.trans hl2
      refine ⟨run_endRound (P := P) (r := { r with state := .busy }) j h3, World.putObj_heap_same (blk_lt h3), (World.putObj_heap_other (by omega)).trans (k3.1.trans hd2)⟩
    subst hRR
    rintro e a3 W3 hp
    cases e with
    | normal =>
      obtain ⟨hf, hkk⟩ := fin none W3 hp.1
      refine ⟨_, _, hf, .inl ⟨rfl, hJ' i _ _ hp.2, ?_⟩⟩
      have : ({ r with state := if (none : Option Code).isNone then .ready else .done, pending := none } : Loop) = r := by
        cases r; simp_all
      rw [this] at hkk ⊢
      exact hkk
    | ret => exact ⟨_, _, (fin (some .ret) W3 hp.1).1, .inr ⟨rfl, .ret, hJx _ _ _ hp.2, (fin (some .ret) W3 hp.1).2⟩⟩
    | exit id => exact ⟨_, _, (fin (some (.exit id)) W3 hp.1).1, .inr ⟨rfl, .exit id, hJx _ _ _ hp.2, (fin (some (.exit id)) W3 hp.1).2⟩⟩
    | goto t => exact ⟨_, _, (fin (some (.goto t)) W3 hp.1).1, .inr ⟨rfl, .goto t, hJx _ _ _ hp.2, (fin (some (.goto t)) W3 hp.1).2⟩⟩
    | panic ch => exact hp.elim
    | outgrown => exact hp.elim
  · rintro e W2 ⟨⟨v, rfl⟩, (⟨hF, hk⟩ | ⟨c, hx, hk⟩)⟩
    · refine ⟨r.pending, _, run_endLoop (P := P) hk.1 (by rw [hrs]; simp), ?_⟩
      rw [hrp]
      exact hdone _ (hJF _ _ hF) ((World.putObj_heap_other (by omega)).trans hk.2)
    · exact ⟨some c, _, run_endLoop (P := P) hk.1 (by simp), hstop c _ (hJx c _ _ hx) ((World.putObj_heap_other (by omega)).trans hk.2)⟩
end Go.Proofs.YtmgjcjacoegocaaDoor.Wire
