/-
  Inside a round of a range over a function, under the wide fence, an operation is run as everywhere: a region may be walked there as outside. No program in sight.
-/
import Derived.Test.YtmgjcjacoegocaaDoorRange2
import Derived.OwnWalkIn
import Derived.OrdersIn
import Derived.Deep.Quiet
import Derived.Deep.RegionHeld
namespace Go.Proofs.YtmgjcjacoegocaaDoor.Wire
set_option maxRecDepth 100000
open Go.RowKit

theorem wpIn_of_wp_round {l n : Nat} {P : Program} {o : Oper} {a : Act} {w : World} {K : Act → World → Prop} {Q : Exit → Act → World → Prop} (hd : ∀ c, o.op ≠ .defer c) (h : o.wp P a w K Q) : o.wpIn (Fence.wide.inRound l) n P a w K Q := by
  unfold Oper.wpIn
  refine ⟨fun _ _ => trivial, ?_⟩
  rw [Oper.semAt_plain _ _ _ hd]
  unfold Oper.wp at h
  generalize (execOp a.eval o).run P w = r at *
  cases r with
  | ok x w' =>
    cases x
    case enter f args => exact ⟨fun q => by simp [Fence.wide] at q, CallsIn.inRound l (callsIn_wide.2 h)⟩
    case row row args => exact ⟨fun q => by simp [Fence.wide] at q, fun c cs _ => by
        obtain ⟨v, w2, r1, r2⟩ := h c cs
        exact ⟨v, w2, r1, stepsIn_wide.2 r2⟩⟩
    all_goals first | exact h | exact h.elim
  | halt x w' => cases x <;> exact h
def noDefer (ops : Array Oper) : Bool := ops.all fun o => match o.op with | .defer _ => false | _ => true
theorem noDefer_at {ops : Array Oper} (h : noDefer ops = true) {i : Nat} {o : Oper} (hi : ops[i]? = some o) : ∀ c, o.op ≠ .defer c := fun c e => by
  unfold noDefer at h
  rw [Array.all_eq_true'] at h
  have := h o (Array.mem_of_getElem? hi)
  rw [e] at this
  cases this
theorem wpAnyIn_of_any {l n : Nat} {P : Program} {md : Region.Mode} {ops : Array Oper} {Q : Exit → Act → World → Prop} (hd : noDefer ops = true) (hQ : ¬ LetsOut Q) :
    ∀ (fuel : Nat) (listed : Array Bool) (a : Act) (w : World), wpAny P md ops Q fuel listed a w → wpAnyIn (Fence.wide.inRound l) n P md ops Q fuel listed a w
  | 0, _, _, _, h => h
  | fuel + 1, listed, a, w, h => by
    refine ⟨h.1, fun i hi => ?_⟩
    have hk := h.2 i hi
    unfold wpOp at hk
    unfold wpOpIn
    cases ho : ops[i]? with
    | none => rw [ho] at hk; exact wpAnyIn_of_any hd hQ fuel _ _ _ hk
    | some o =>
      rw [ho] at hk
      dsimp only at hk ⊢
      by_cases hw : Region.wanted o (yielded ops a.tmps) = true
      · rw [if_pos hw] at hk ⊢
        rcases hk with hk | hk
        · exact wpIn_of_wp_round (noDefer_at hd ho) (Oper.wp_mono (fun a w q => wpAnyIn_of_any hd hQ fuel _ a w q) hk)
        · exact absurd hk.2 hQ
      · rw [if_neg hw] at hk ⊢
        exact ⟨fun _ _ => trivial, wpAnyIn_of_any hd hQ fuel _ _ _ hk⟩
/-- only the normal way out is kept -/
def OnlyN (Q : Exit → Act → World → Prop) : Exit → Act → World → Prop := Exit.then (Q .normal) (fun _ _ _ => False)
theorem onlyN_lets {Q : Exit → Act → World → Prop} : ¬ LetsOut (OnlyN Q) := fun ⟨_, _, h⟩ => h
theorem onlyN_to {Q : Exit → Act → World → Prop} (e : Exit) (a : Act) (w : World) (h : OnlyN Q e a w) : Q e a w := by
  cases e with
  | normal => exact h
  | _ => exact h.elim
/-- a region that draws its order, in a round: walked as outside -/
theorem wpIn_round_any {l n id : Nat} {P : Program} {ops : Array Oper} {Q : Exit → Act → World → Prop} {a : Act} {w : World} (hm : P.follows .mixedOrders = true) (hd : noDefer ops = true)
    (h : wpAny P .any ops (OnlyN Q) ops.size (Array.replicate ops.size false) a { w with drawn := w.drawn + 1 }) : (Code.region id ops true).wpIn (Fence.wide.inRound l) n P Q a w :=
  wpIn_mono (wpIn_region_any hm (wpAnyIn_of_any hd onlyN_lets _ _ _ _ h)) onlyN_to
/-- a quiet one -/
theorem wpIn_round_quiet {l n id : Nat} {P : Program} {Q : Exit → Act → World → Prop} {a : Act} {w : World} {ops : List Oper} (hm : P.follows .mixedOrders = true) (hd : noDefer ops.toArray = true) (hB : Region.lexB .any ops.toArray = true)
    (h : wpQuiet P ops.toArray (fun w' => ∃ n, w' = w.drewN n) (fun a' => ∀ w', (∃ n, w' = w.drewN n) → Q .normal a' w') ops a) : (Code.region id ops.toArray true).wpIn (Fence.wide.inRound l) n P Q a w := by
  simp only [Region.lexB, Bool.and_eq_true] at hB
  refine wpIn_round_any hm hd (wpAny_of_quiet (C := fun w' => ∃ n, w' = w.drewN n) (Q' := OnlyN Q) (Q := fun a' => ∀ w', (∃ n, w' = w.drewN n) → Q .normal a' w') (fun _ w' hw' h => h w' hw') _ _ _ _ ⟨1, rfl⟩ ?_)
  have := wpAnyQ_lex (C := fun w' => ∃ n, w' = w.drewN n) (md := .any) hB.1 ops.toArray.toList 0 (Array.replicate ops.toArray.size false) a (by simp) (by simpa using hB.2) (by simpa using h)
  simpa using this
/-- one whose cells are held -/
theorem wpIn_round_held {l n id : Nat} {P : Program} {ops : Array Oper} {Q : Exit → Act → World → Prop} {S : World → Prop} {a : Act} {w : World} (hm : P.follows .mixedOrders = true) (hd : noDefer ops = true) (hS : S w.drew)
    (h : S w.drew → wpAnyH P .any ops (OnlyN Q) S ops.size (Array.replicate ops.size false) a w.drew) : (Code.region id ops true).wpIn (Fence.wide.inRound l) n P Q a w :=
  wpIn_round_any hm hd (wpAny_of_held _ _ _ _ (h hS))
end Go.Proofs.YtmgjcjacoegocaaDoor.Wire
