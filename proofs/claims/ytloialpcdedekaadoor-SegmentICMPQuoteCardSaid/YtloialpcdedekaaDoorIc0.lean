/-
  The rules of the kinds of package icmp: a map of five rules, whatever the order in which its entries come.
-/
import Derived.Test.YtloialpcdedekaaDoorMapInt
import Derived.Test.YtloialpcdedekaaDoorBase2
import Derived.Test.YtloialpcdedekaaDoorHeld
import Derived.Deep.RegionHeld3
import Derived.Deep.QuietTactic
import Derived.Laws.EntriesVeiled
namespace Go.Proofs.YtloialpcdedekaaDoor.Ic
set_option maxRecDepth 100000
open Go.RowKit Go.Proofs.YtloialpcdedekaaDoor.Wire

def echoV : Value := .agg #[.bool false, .int .i64 500, .func (Fn.func 58) #[] #[]]
def bigV : Value := .agg #[.bool true, .int .i64 28, .func (Fn.func 60) #[] #[]]
/-- the rule of an error kind whose code is from lo to hi -/
def Coded (W : World) (t : Value) (lo hi : Int) : Prop := ∃ a b, t = .agg #[.bool true, .int .i64 28, .func (Fn.func 65) #[] #[.pointer (some ⟨a, 0, none⟩), .pointer (some ⟨b, 0, none⟩)]] ∧ W.heap[a]? = some (.cells #[.int .i64 lo] 3 (0, 0)) ∧ W.heap[b]? = some (.cells #[.int .i64 hi] 3 (0, 0))
theorem Coded.below {W W' : World} {t : Value} {lo hi : Int} (h : Coded W t lo hi) (hb : Below W.heap.size W W') : Coded W' t lo hi := by
  obtain ⟨a, b, e, ha, hb'⟩ := h
  exact ⟨a, b, e, bblock hb ha, bblock hb hb'⟩
theorem Coded.setObj {W : World} {t : Value} {lo hi : Int} {r : Nat} {es : Array MapEntry} {clk : Nat} {o : Obj} (h : Coded W t lo hi) (hr : W.heap[r]? = some (.map es clk)) : Coded { W with heap := W.heap.setIfInBounds r o } t lo hi := by
  obtain ⟨a, b, e, ha, hb'⟩ := h
  refine ⟨a, b, e, block_setObj ha (fun q => ?_), block_setObj hb' (fun q => ?_)⟩
  · subst q; rw [hr] at ha; cases ha
  · subst q; rw [hr] at hb'; cases hb'
theorem infoRule : (Tryd.prog.info? 93).map (·.size) = some 3 := by kernel_rfl
theorem coded_any (lo hi : Int) (w : World) :
    Calls Tryd.prog 59 #[.int .i64 lo, .int .i64 hi] w fun e w' => ∃ v, e = .returned v ∧ Coded w' v lo hi ∧ Below w.heap.size w w' := by
  go_enter Tryd.func59, Tryd.ntmps59
  go_wp2_with fail
  exact bodyPost_ret (v := .agg #[.bool true, .int .i64 28, .func (Fn.func 65) #[] #[.pointer (some ⟨w.heap.size, 0, none⟩), .pointer (some ⟨w.heap.size + 1, 0, none⟩)]]) (res_cell1 Tryd.results59 (alloc_new' _ _ _ (by simp)) rfl Tryd.underlying93 rfl infoRule) rfl ⟨_, rfl, ⟨_, _, rfl, block_alloc (block_alloc (alloc_new _ _) _) _, block_alloc (alloc_new' _ _ _ (by simp)) _⟩, (((Below.refl _ _).alloc (Nat.le_refl _) _).alloc (by simp) _).alloc (by simp; omega) _⟩

/-- a map at t that reads as f -/
def MapAt (w0 W : World) (t : Value) (f : Int → Option Value) : Prop := ∃ r es clk, t = .map (some r) ∧ W.heap[r]? = some (.map es clk) ∧ w0.heap.size ≤ r ∧ IntKeys es ∧ ∀ k, lookL es.toList k = f k
theorem MapAt.below {w0 W W' : World} {t : Value} {f g : Int → Option Value} (h : MapAt w0 W t f) (hb : Below W.heap.size W W') (hg : ∀ k, f k = g k) : MapAt w0 W' t g := by
  obtain ⟨r, es, clk, e, hr, h0, hk, hf⟩ := h
  exact ⟨r, es, clk, e, bblock hb hr, h0, hk, fun k => (hf k).trans (hg k)⟩
structure RInv (w0 : World) (B : Nat) (l0 l1 l2 l3 l4 l5 l6 l7 l8 l9 l10 l11 l12 : Bool) (t0 t3 t4 t5 t6 t7 t8 t9 : Value) (w : World) : Prop where
  box : w.heap[B]? = some (.cells #[.bool false, .int .i64 500, .func (Fn.func 58) #[] #[]] 93 (0, 0))
  below : Below w0.heap.size w0 w
  hm : l0 = true → MapAt w0 w t3 (fun k => if k = 1 then (if l2 = true then some t4 else none) else if k = 2 then (if l4 = true then some t5 else none) else if k = 3 then (if l6 = true then some t6 else none) else if k = 4 then (if l8 = true then some t7 else none) else if k = 5 then (if l10 = true then some t8 else none) else none)
  v4 : l1 = true → t4 = echoV
  v5 : l3 = true → t5 = echoV
  v6 : l5 = true → Coded w t6 1 4
  v7 : l7 = true → Coded w t7 1 2
  v8 : l9 = true → t8 = bigV
  v9 : l11 = true → t9 = t3
  v0 : l12 = true → t0 = t3
  o2 : l2 = true → l0 = true ∧ l1 = true
  o4 : l4 = true → l0 = true ∧ l3 = true
  o6 : l6 = true → l0 = true ∧ l5 = true
  o8 : l8 = true → l0 = true ∧ l7 = true
  o10 : l10 = true → l0 = true ∧ l9 = true
  o11 : l11 = true → l0 = true
  o12 : l12 = true → l0 = true ∧ l11 = true
def RI (w0 : World) (B : Nat) (t2 : Value) (l : Array Bool) (a : Act) (w : World) : Prop := ∃ l0 l1 l2 l3 l4 l5 l6 l7 l8 l9 l10 l11 l12 t0 t3 t4 t5 t6 t7 t8 t9, l = #[l0, l1, l2, l3, l4, l5, l6, l7, l8, l9, l10, l11, l12] ∧ a = ⟨#[t0, .pointer (some ⟨B, 0, none⟩), t2, t3, t4, t5, t6, t7, t8, t9], []⟩ ∧ RInv w0 B l0 l1 l2 l3 l4 l5 l6 l7 l8 l9 l10 l11 l12 t0 t3 t4 t5 t6 t7 t8 t9 w
theorem wpOp_of {P : Program} {ops : Array Oper} {Q : Exit → Act → World → Prop} {i : Nat} {o : Oper} {K : Act → World → Prop} {a : Act} {w : World} (ho : ops[i]? = some o) (hg : o.guard = none) (h : o.wp P a w K Q) : wpOp P ops Q i K a w := by
  unfold wpOp
  simp only [ho, Region.wanted, hg, if_true]
  exact Or.inl h
theorem no_of {b : Bool} {p : Prop} (h : b = true → p) (hp : ¬ p) : b = false := by
  cases b with
  | false => rfl
  | true => exact absurd (h rfl) hp
/-- the rules in memory: a map that reads as the chapter says -/
def IsRules (W : World) (r : Nat) : Prop := ∃ es clk v3 v4, W.heap[r]? = some (.map es clk) ∧ IntKeys es ∧ Coded W v3 1 4 ∧ Coded W v4 1 2 ∧ ∀ k, lookL es.toList k = if k = 1 then some echoV else if k = 2 then some echoV else if k = 3 then some v3 else if k = 4 then some v4 else if k = 5 then some bigV else none
theorem rules_any (w : World) : Calls Tryd.prog 45 #[] w fun e w' => ∃ r, e = .returned (.map (some r)) ∧ IsRules w' r ∧ Below w.heap.size w w' := by
  go_enter Tryd.func45, Tryd.ntmps45
  go_wp2_with fail
  have hmm := @run_makeMap Tryd.prog
  refine wp_region_any (by kernel_rfl) ?_
  refine wpAny_inv (RI w w.heap.size echoV) ?_ ?_ _ _ _ _ (by decide) ?_
  · intro l a w' hI hr
    obtain ⟨l0, l1, l2, l3, l4, l5, l6, l7, l8, l9, l10, l11, l12, t0, t3, t4, t5, t6, t7, t8, t9, rfl, rfl, hv⟩ := hI
    have e0 : l0 = true := by
      refine Bool.of_not_eq_false fun hf => ?_
      have hm : 0 ∈ ([] : List Nat) := by
        rw [← hr]
        refine mem_ready.2 ⟨hf, _, rfl, fun e he _ => ?_⟩
        simp at he
      simp at hm
    have e1 : l1 = true := by
      refine Bool.of_not_eq_false fun hf => ?_
      have hm : 1 ∈ ([] : List Nat) := by
        rw [← hr]
        refine mem_ready.2 ⟨hf, _, rfl, fun e he _ => ?_⟩
        simp at he
      simp at hm
    have e2 : l2 = true := by
      refine Bool.of_not_eq_false fun hf => ?_
      have hm : 2 ∈ ([] : List Nat) := by
        rw [← hr]
        refine mem_ready.2 ⟨hf, _, rfl, fun e he _ => ?_⟩
        simp at he
        rcases he with rfl | rfl
        all_goals first | assumption | (simp; assumption)
      simp at hm
    have e3 : l3 = true := by
      refine Bool.of_not_eq_false fun hf => ?_
      have hm : 3 ∈ ([] : List Nat) := by
        rw [← hr]
        refine mem_ready.2 ⟨hf, _, rfl, fun e he _ => ?_⟩
        simp at he
      simp at hm
    have e4 : l4 = true := by
      refine Bool.of_not_eq_false fun hf => ?_
      have hm : 4 ∈ ([] : List Nat) := by
        rw [← hr]
        refine mem_ready.2 ⟨hf, _, rfl, fun e he _ => ?_⟩
        simp at he
        rcases he with rfl | rfl
        all_goals first | assumption | (simp; assumption)
      simp at hm
    have e5 : l5 = true := by
      refine Bool.of_not_eq_false fun hf => ?_
      have hm : 5 ∈ ([] : List Nat) := by
        rw [← hr]
        refine mem_ready.2 ⟨hf, _, rfl, fun e he _ => ?_⟩
        simp at he
      simp at hm
    have e6 : l6 = true := by
      refine Bool.of_not_eq_false fun hf => ?_
      have hm : 6 ∈ ([] : List Nat) := by
        rw [← hr]
        refine mem_ready.2 ⟨hf, _, rfl, fun e he _ => ?_⟩
        simp at he
        rcases he with rfl | rfl
        all_goals first | assumption | (simp; assumption)
      simp at hm
    have e7 : l7 = true := by
      refine Bool.of_not_eq_false fun hf => ?_
      have hm : 7 ∈ ([] : List Nat) := by
        rw [← hr]
        refine mem_ready.2 ⟨hf, _, rfl, fun e he _ => ?_⟩
        simp at he
        rcases he with rfl
        all_goals first | assumption | (simp; assumption)
      simp at hm
    have e8 : l8 = true := by
      refine Bool.of_not_eq_false fun hf => ?_
      have hm : 8 ∈ ([] : List Nat) := by
        rw [← hr]
        refine mem_ready.2 ⟨hf, _, rfl, fun e he _ => ?_⟩
        simp at he
        rcases he with rfl | rfl
        all_goals first | assumption | (simp; assumption)
      simp at hm
    have e9 : l9 = true := by
      refine Bool.of_not_eq_false fun hf => ?_
      have hm : 9 ∈ ([] : List Nat) := by
        rw [← hr]
        refine mem_ready.2 ⟨hf, _, rfl, fun e he _ => ?_⟩
        simp at he
      simp at hm
    have e10 : l10 = true := by
      refine Bool.of_not_eq_false fun hf => ?_
      have hm : 10 ∈ ([] : List Nat) := by
        rw [← hr]
        refine mem_ready.2 ⟨hf, _, rfl, fun e he _ => ?_⟩
        simp at he
        rcases he with rfl | rfl
        all_goals first | assumption | (simp; assumption)
      simp at hm
    have e11 : l11 = true := by
      refine Bool.of_not_eq_false fun hf => ?_
      have hm : 11 ∈ ([] : List Nat) := by
        rw [← hr]
        refine mem_ready.2 ⟨hf, _, rfl, fun e he _ => ?_⟩
        simp at he
        rcases he with rfl | rfl | rfl | rfl | rfl | rfl | rfl | rfl | rfl | rfl | rfl
        all_goals first | assumption | (simp; assumption)
      simp at hm
    have e12 : l12 = true := by
      refine Bool.of_not_eq_false fun hf => ?_
      have hm : 12 ∈ ([] : List Nat) := by
        rw [← hr]
        refine mem_ready.2 ⟨hf, _, rfl, fun e he _ => ?_⟩
        simp at he
        rcases he with rfl | rfl | rfl | rfl | rfl | rfl | rfl | rfl | rfl | rfl | rfl | rfl | rfl | rfl
        all_goals first | assumption | (simp; assumption)
      simp at hm
    subst e0 e1 e2 e3 e4 e5 e6 e7 e8 e9 e10 e11 e12
    obtain ⟨r, es, clk, e, hb, h0, hk, hf⟩ := hv.hm rfl
    have h9 := hv.v0 rfl
    subst e
    subst h9
    have h4 := hv.v4 rfl; have h5 := hv.v5 rfl; have h8 := hv.v8 rfl
    subst h4; subst h5; subst h8
    go_wp2_with fail
    go_ret
    exact ⟨r, rfl, ⟨es, clk, _, _, hb, hk, hv.v6 rfl, hv.v7 rfl, fun k => by rw [hf k]; simp⟩, hv.below⟩
  · intro l a w' i hI hi
    obtain ⟨hl, o, ho, hall⟩ := mem_ready.1 hi
    have hlt : i < 13 := (Array.getElem?_eq_some_iff.1 ho).1
    obtain ⟨l0, l1, l2, l3, l4, l5, l6, l7, l8, l9, l10, l11, l12, t0, t3, t4, t5, t6, t7, t8, t9, rfl, rfl, hv⟩ := hI
    match i, hlt with
    | 0, _ =>
      obtain rfl : _ = o := Option.some.inj ho
      have f0 : l0 = false := hl
      have f2 : l2 = false := no_of hv.o2 (fun h => by simp [f0] at h)
      have f4 : l4 = false := no_of hv.o4 (fun h => by simp [f0] at h)
      have f6 : l6 = false := no_of hv.o6 (fun h => by simp [f0] at h)
      have f8 : l8 = false := no_of hv.o8 (fun h => by simp [f0] at h)
      have f10 : l10 = false := no_of hv.o10 (fun h => by simp [f0] at h)
      have f11 : l11 = false := no_of hv.o11 (fun h => by simp [f0] at h)
      have f12 : l12 = false := no_of hv.o12 (fun h => by simp [f0] at h)
      clear hall hi hl ho
      subst f0 f2 f4 f6 f8 f10 f11 f12
      refine wpOp_of rfl rfl ?_
      unfold Oper.wp
      go_simp
      exact ⟨_, _, _, _, _, _, _, _, _, _, _, _, _, _, _, _, _, _, _, _, _, rfl, rfl, { box := block_alloc hv.box _, below := hv.below.alloc hv.below.size _, hm := fun _ => ⟨_, _, _, rfl, alloc_new _ _, hv.below.size, intKeys_nil, fun k => by simp [lookL]⟩, v4 := hv.v4, v5 := hv.v5, v6 := fun h => (hv.v6 h).below ((Below.refl _ _).alloc (Nat.le_refl _) _), v7 := fun h => (hv.v7 h).below ((Below.refl _ _).alloc (Nat.le_refl _) _), v8 := hv.v8, v9 := (fun h => by cases h), v0 := (fun h => by cases h), o2 := (fun h => by have := hv.o2 h; simp_all), o4 := (fun h => by have := hv.o4 h; simp_all), o6 := (fun h => by have := hv.o6 h; simp_all), o8 := (fun h => by have := hv.o8 h; simp_all), o10 := (fun h => by have := hv.o10 h; simp_all), o11 := (fun h => by have := hv.o11 h; simp_all), o12 := (fun h => by have := hv.o12 h; simp_all) }⟩
    | 1, _ =>
      obtain rfl : _ = o := Option.some.inj ho
      have f1 : l1 = false := hl
      have f2 : l2 = false := no_of hv.o2 (fun h => by simp [f1] at h)
      clear hall hi hl ho
      subst f1 f2
      refine wpOp_of rfl rfl ?_
      unfold Oper.wp
      obtain ⟨⟨q0, q1, q2⟩, z0, z1, z2⟩ := cells3 hv.box
      go_simp
      exact ⟨_, _, _, _, _, _, _, _, _, _, _, _, _, _, _, _, _, _, _, _, _, rfl, rfl, { box := hv.box, below := hv.below, hm := fun h => (hv.hm h).below (Below.refl _ _) (fun k => by simp), v4 := fun _ => rfl, v5 := hv.v5, v6 := hv.v6, v7 := hv.v7, v8 := hv.v8, v9 := hv.v9, v0 := hv.v0, o2 := (fun h => by have := hv.o2 h; simp_all), o4 := (fun h => by have := hv.o4 h; simp_all), o6 := (fun h => by have := hv.o6 h; simp_all), o8 := (fun h => by have := hv.o8 h; simp_all), o10 := (fun h => by have := hv.o10 h; simp_all), o11 := (fun h => by have := hv.o11 h; simp_all), o12 := (fun h => by have := hv.o12 h; simp_all) }⟩
    | 2, _ =>
      obtain rfl : _ = o := Option.some.inj ho
      have f2 : l2 = false := hl
      have e0 : l0 = true := hall ⟨0, .data⟩ (by simp) rfl
      have e1 : l1 = true := hall ⟨1, .data⟩ (by simp) rfl
      clear hall hi hl ho
      subst f2 e0 e1
      refine wpOp_of rfl rfl ?_
      unfold Oper.wp
      obtain ⟨r, es, clk, q, hr, h0, hk, hf⟩ := hv.hm rfl
      subst q
      have hu := run_update_new (P := Tryd.prog) 1 t4 Tryd.underlying94 Tryd.underlying3 hr hk (by rw [hf]; simp)
      go_simp
      exact ⟨_, _, _, _, _, _, _, _, _, _, _, _, _, _, _, _, _, _, _, _, _, rfl, rfl, { box := block_setObj hv.box (fun q => by have := hv.box; rw [q, hr] at this; cases this), below := below_setObj hv.below h0 _, hm := fun _ => ⟨_, _, _, rfl, block_setObj_same hr, h0, intKeys_push hk _ _ _, fun k => by (by_cases hk1 : k = 1) <;> (rw [look_push _ _ _ _ _ (by first | exact Or.inr hk1 | (left; rw [hf]; simp [hk1])), hf k]; simp [hk1])⟩, v4 := hv.v4, v5 := hv.v5, v6 := fun h => (hv.v6 h).setObj hr, v7 := fun h => (hv.v7 h).setObj hr, v8 := hv.v8, v9 := hv.v9, v0 := hv.v0, o2 := fun _ => ⟨rfl, rfl⟩, o4 := (fun h => by have := hv.o4 h; simp_all), o6 := (fun h => by have := hv.o6 h; simp_all), o8 := (fun h => by have := hv.o8 h; simp_all), o10 := (fun h => by have := hv.o10 h; simp_all), o11 := (fun h => by have := hv.o11 h; simp_all), o12 := (fun h => by have := hv.o12 h; simp_all) }⟩
    | 3, _ =>
      obtain rfl : _ = o := Option.some.inj ho
      have f3 : l3 = false := hl
      have f4 : l4 = false := no_of hv.o4 (fun h => by simp [f3] at h)
      clear hall hi hl ho
      subst f3 f4
      refine wpOp_of rfl rfl ?_
      unfold Oper.wp
      obtain ⟨⟨q0, q1, q2⟩, z0, z1, z2⟩ := cells3 hv.box
      go_simp
      exact ⟨_, _, _, _, _, _, _, _, _, _, _, _, _, _, _, _, _, _, _, _, _, rfl, rfl, { box := hv.box, below := hv.below, hm := fun h => (hv.hm h).below (Below.refl _ _) (fun k => by simp), v4 := hv.v4, v5 := fun _ => rfl, v6 := hv.v6, v7 := hv.v7, v8 := hv.v8, v9 := hv.v9, v0 := hv.v0, o2 := (fun h => by have := hv.o2 h; simp_all), o4 := (fun h => by have := hv.o4 h; simp_all), o6 := (fun h => by have := hv.o6 h; simp_all), o8 := (fun h => by have := hv.o8 h; simp_all), o10 := (fun h => by have := hv.o10 h; simp_all), o11 := (fun h => by have := hv.o11 h; simp_all), o12 := (fun h => by have := hv.o12 h; simp_all) }⟩
    | 4, _ =>
      obtain rfl : _ = o := Option.some.inj ho
      have f4 : l4 = false := hl
      have e0 : l0 = true := hall ⟨0, .data⟩ (by simp) rfl
      have e3 : l3 = true := hall ⟨3, .data⟩ (by simp) rfl
      clear hall hi hl ho
      subst f4 e0 e3
      refine wpOp_of rfl rfl ?_
      unfold Oper.wp
      obtain ⟨r, es, clk, q, hr, h0, hk, hf⟩ := hv.hm rfl
      subst q
      have hu := run_update_new (P := Tryd.prog) 2 t5 Tryd.underlying94 Tryd.underlying3 hr hk (by rw [hf]; simp)
      go_simp
      exact ⟨_, _, _, _, _, _, _, _, _, _, _, _, _, _, _, _, _, _, _, _, _, rfl, rfl, { box := block_setObj hv.box (fun q => by have := hv.box; rw [q, hr] at this; cases this), below := below_setObj hv.below h0 _, hm := fun _ => ⟨_, _, _, rfl, block_setObj_same hr, h0, intKeys_push hk _ _ _, fun k => by (by_cases hk2 : k = 2) <;> (rw [look_push _ _ _ _ _ (by first | exact Or.inr hk2 | (left; rw [hf]; simp [hk2])), hf k]; simp [hk2])⟩, v4 := hv.v4, v5 := hv.v5, v6 := fun h => (hv.v6 h).setObj hr, v7 := fun h => (hv.v7 h).setObj hr, v8 := hv.v8, v9 := hv.v9, v0 := hv.v0, o2 := (fun h => by have := hv.o2 h; simp_all), o4 := fun _ => ⟨rfl, rfl⟩, o6 := (fun h => by have := hv.o6 h; simp_all), o8 := (fun h => by have := hv.o8 h; simp_all), o10 := (fun h => by have := hv.o10 h; simp_all), o11 := (fun h => by have := hv.o11 h; simp_all), o12 := (fun h => by have := hv.o12 h; simp_all) }⟩
    | 5, _ =>
      obtain rfl : _ = o := Option.some.inj ho
      have f5 : l5 = false := hl
      have f6 : l6 = false := no_of hv.o6 (fun h => by simp [f5] at h)
      clear hall hi hl ho
      subst f5 f6
      refine wpOp_of rfl rfl ?_
      unfold Oper.wp
      go_simp
      refine (coded_any 1 4 _).mono ?_
      rintro e w2 ⟨v, rfl, hc, hb⟩
      exact ⟨_, _, _, _, _, _, _, _, _, _, _, _, _, _, _, _, _, _, _, _, _, rfl, rfl, { box := bblock hb hv.box, below := below_call hv.below hb, hm := fun h => (hv.hm h).below hb (fun k => by simp), v4 := hv.v4, v5 := hv.v5, v6 := fun _ => hc, v7 := fun h => (hv.v7 h).below hb, v8 := hv.v8, v9 := hv.v9, v0 := hv.v0, o2 := (fun h => by have := hv.o2 h; simp_all), o4 := (fun h => by have := hv.o4 h; simp_all), o6 := (fun h => by have := hv.o6 h; simp_all), o8 := (fun h => by have := hv.o8 h; simp_all), o10 := (fun h => by have := hv.o10 h; simp_all), o11 := (fun h => by have := hv.o11 h; simp_all), o12 := (fun h => by have := hv.o12 h; simp_all) }⟩
    | 6, _ =>
      obtain rfl : _ = o := Option.some.inj ho
      have f6 : l6 = false := hl
      have e0 : l0 = true := hall ⟨0, .data⟩ (by simp) rfl
      have e5 : l5 = true := hall ⟨5, .data⟩ (by simp) rfl
      clear hall hi hl ho
      subst f6 e0 e5
      refine wpOp_of rfl rfl ?_
      unfold Oper.wp
      obtain ⟨r, es, clk, q, hr, h0, hk, hf⟩ := hv.hm rfl
      subst q
      have hu := run_update_new (P := Tryd.prog) 3 t6 Tryd.underlying94 Tryd.underlying3 hr hk (by rw [hf]; simp)
      go_simp
      exact ⟨_, _, _, _, _, _, _, _, _, _, _, _, _, _, _, _, _, _, _, _, _, rfl, rfl, { box := block_setObj hv.box (fun q => by have := hv.box; rw [q, hr] at this; cases this), below := below_setObj hv.below h0 _, hm := fun _ => ⟨_, _, _, rfl, block_setObj_same hr, h0, intKeys_push hk _ _ _, fun k => by (by_cases hk3 : k = 3) <;> (rw [look_push _ _ _ _ _ (by first | exact Or.inr hk3 | (left; rw [hf]; simp [hk3])), hf k]; simp [hk3])⟩, v4 := hv.v4, v5 := hv.v5, v6 := fun h => (hv.v6 h).setObj hr, v7 := fun h => (hv.v7 h).setObj hr, v8 := hv.v8, v9 := hv.v9, v0 := hv.v0, o2 := (fun h => by have := hv.o2 h; simp_all), o4 := (fun h => by have := hv.o4 h; simp_all), o6 := fun _ => ⟨rfl, rfl⟩, o8 := (fun h => by have := hv.o8 h; simp_all), o10 := (fun h => by have := hv.o10 h; simp_all), o11 := (fun h => by have := hv.o11 h; simp_all), o12 := (fun h => by have := hv.o12 h; simp_all) }⟩
    | 7, _ =>
      obtain rfl : _ = o := Option.some.inj ho
      have f7 : l7 = false := hl
      have f8 : l8 = false := no_of hv.o8 (fun h => by simp [f7] at h)
      clear hall hi hl ho
      subst f7 f8
      refine wpOp_of rfl rfl ?_
      unfold Oper.wp
      go_simp
      refine (coded_any 1 2 _).mono ?_
      rintro e w2 ⟨v, rfl, hc, hb⟩
      exact ⟨_, _, _, _, _, _, _, _, _, _, _, _, _, _, _, _, _, _, _, _, _, rfl, rfl, { box := bblock hb hv.box, below := below_call hv.below hb, hm := fun h => (hv.hm h).below hb (fun k => by simp), v4 := hv.v4, v5 := hv.v5, v6 := fun h => (hv.v6 h).below hb, v7 := fun _ => hc, v8 := hv.v8, v9 := hv.v9, v0 := hv.v0, o2 := (fun h => by have := hv.o2 h; simp_all), o4 := (fun h => by have := hv.o4 h; simp_all), o6 := (fun h => by have := hv.o6 h; simp_all), o8 := (fun h => by have := hv.o8 h; simp_all), o10 := (fun h => by have := hv.o10 h; simp_all), o11 := (fun h => by have := hv.o11 h; simp_all), o12 := (fun h => by have := hv.o12 h; simp_all) }⟩
    | 8, _ =>
      obtain rfl : _ = o := Option.some.inj ho
      have f8 : l8 = false := hl
      have e0 : l0 = true := hall ⟨0, .data⟩ (by simp) rfl
      have e7 : l7 = true := hall ⟨7, .data⟩ (by simp) rfl
      clear hall hi hl ho
      subst f8 e0 e7
      refine wpOp_of rfl rfl ?_
      unfold Oper.wp
      obtain ⟨r, es, clk, q, hr, h0, hk, hf⟩ := hv.hm rfl
      subst q
      have hu := run_update_new (P := Tryd.prog) 4 t7 Tryd.underlying94 Tryd.underlying3 hr hk (by rw [hf]; simp)
      go_simp
      exact ⟨_, _, _, _, _, _, _, _, _, _, _, _, _, _, _, _, _, _, _, _, _, rfl, rfl, { box := block_setObj hv.box (fun q => by have := hv.box; rw [q, hr] at this; cases this), below := below_setObj hv.below h0 _, hm := fun _ => ⟨_, _, _, rfl, block_setObj_same hr, h0, intKeys_push hk _ _ _, fun k => by (by_cases hk4 : k = 4) <;> (rw [look_push _ _ _ _ _ (by first | exact Or.inr hk4 | (left; rw [hf]; simp [hk4])), hf k]; simp [hk4])⟩, v4 := hv.v4, v5 := hv.v5, v6 := fun h => (hv.v6 h).setObj hr, v7 := fun h => (hv.v7 h).setObj hr, v8 := hv.v8, v9 := hv.v9, v0 := hv.v0, o2 := (fun h => by have := hv.o2 h; simp_all), o4 := (fun h => by have := hv.o4 h; simp_all), o6 := (fun h => by have := hv.o6 h; simp_all), o8 := fun _ => ⟨rfl, rfl⟩, o10 := (fun h => by have := hv.o10 h; simp_all), o11 := (fun h => by have := hv.o11 h; simp_all), o12 := (fun h => by have := hv.o12 h; simp_all) }⟩
    | 9, _ =>
      obtain rfl : _ = o := Option.some.inj ho
      have f9 : l9 = false := hl
      have f10 : l10 = false := no_of hv.o10 (fun h => by simp [f9] at h)
      clear hall hi hl ho
      subst f9 f10
      refine wpOp_of rfl rfl ?_
      unfold Oper.wp
      go_simp
      exact ⟨_, _, _, _, _, _, _, _, _, _, _, _, _, _, _, _, _, _, _, _, _, rfl, rfl, { box := hv.box, below := hv.below, hm := fun h => (hv.hm h).below (Below.refl _ _) (fun k => by simp), v4 := hv.v4, v5 := hv.v5, v6 := hv.v6, v7 := hv.v7, v8 := fun _ => rfl, v9 := hv.v9, v0 := hv.v0, o2 := (fun h => by have := hv.o2 h; simp_all), o4 := (fun h => by have := hv.o4 h; simp_all), o6 := (fun h => by have := hv.o6 h; simp_all), o8 := (fun h => by have := hv.o8 h; simp_all), o10 := (fun h => by have := hv.o10 h; simp_all), o11 := (fun h => by have := hv.o11 h; simp_all), o12 := (fun h => by have := hv.o12 h; simp_all) }⟩
    | 10, _ =>
      obtain rfl : _ = o := Option.some.inj ho
      have f10 : l10 = false := hl
      have e0 : l0 = true := hall ⟨0, .data⟩ (by simp) rfl
      have e9 : l9 = true := hall ⟨9, .data⟩ (by simp) rfl
      clear hall hi hl ho
      subst f10 e0 e9
      refine wpOp_of rfl rfl ?_
      unfold Oper.wp
      obtain ⟨r, es, clk, q, hr, h0, hk, hf⟩ := hv.hm rfl
      subst q
      have hu := run_update_new (P := Tryd.prog) 5 t8 Tryd.underlying94 Tryd.underlying3 hr hk (by rw [hf]; simp)
      go_simp
      exact ⟨_, _, _, _, _, _, _, _, _, _, _, _, _, _, _, _, _, _, _, _, _, rfl, rfl, { box := block_setObj hv.box (fun q => by have := hv.box; rw [q, hr] at this; cases this), below := below_setObj hv.below h0 _, hm := fun _ => ⟨_, _, _, rfl, block_setObj_same hr, h0, intKeys_push hk _ _ _, fun k => by (by_cases hk5 : k = 5) <;> (rw [look_push _ _ _ _ _ (by first | exact Or.inr hk5 | (left; rw [hf]; simp [hk5])), hf k]; simp [hk5])⟩, v4 := hv.v4, v5 := hv.v5, v6 := fun h => (hv.v6 h).setObj hr, v7 := fun h => (hv.v7 h).setObj hr, v8 := hv.v8, v9 := hv.v9, v0 := hv.v0, o2 := (fun h => by have := hv.o2 h; simp_all), o4 := (fun h => by have := hv.o4 h; simp_all), o6 := (fun h => by have := hv.o6 h; simp_all), o8 := (fun h => by have := hv.o8 h; simp_all), o10 := fun _ => ⟨rfl, rfl⟩, o11 := (fun h => by have := hv.o11 h; simp_all), o12 := (fun h => by have := hv.o12 h; simp_all) }⟩
    | 11, _ =>
      obtain rfl : _ = o := Option.some.inj ho
      have f11 : l11 = false := hl
      have e0 : l0 = true := hall ⟨0, .data⟩ (by simp) rfl
      have f12 : l12 = false := no_of hv.o12 (fun h => by simp [f11] at h)
      clear hall hi hl ho
      subst f11 f12 e0
      refine wpOp_of rfl rfl ?_
      unfold Oper.wp
      go_simp
      exact ⟨_, _, _, _, _, _, _, _, _, _, _, _, _, _, _, _, _, _, _, _, _, rfl, rfl, { box := hv.box, below := hv.below, hm := hv.hm, v4 := hv.v4, v5 := hv.v5, v6 := hv.v6, v7 := hv.v7, v8 := hv.v8, v9 := fun _ => rfl, v0 := (fun h => by cases h), o2 := (fun h => by have := hv.o2 h; simp_all), o4 := (fun h => by have := hv.o4 h; simp_all), o6 := (fun h => by have := hv.o6 h; simp_all), o8 := (fun h => by have := hv.o8 h; simp_all), o10 := (fun h => by have := hv.o10 h; simp_all), o11 := fun _ => rfl, o12 := (fun h => by have := hv.o12 h; simp_all) }⟩
    | 12, _ =>
      obtain rfl : _ = o := Option.some.inj ho
      have f12 : l12 = false := hl
      have e11 : l11 = true := hall ⟨11, .data⟩ (by simp) rfl
      have e0 : l0 = true := hv.o11 e11
      clear hall hi hl ho
      subst f12 e11 e0
      refine wpOp_of rfl rfl ?_
      unfold Oper.wp
      go_simp
      exact ⟨_, _, _, _, _, _, _, _, _, _, _, _, _, _, _, _, _, _, _, _, _, rfl, rfl, { box := hv.box, below := hv.below, hm := hv.hm, v4 := hv.v4, v5 := hv.v5, v6 := hv.v6, v7 := hv.v7, v8 := hv.v8, v9 := hv.v9, v0 := fun _ => hv.v9 rfl, o2 := (fun h => by have := hv.o2 h; simp_all), o4 := (fun h => by have := hv.o4 h; simp_all), o6 := (fun h => by have := hv.o6 h; simp_all), o8 := (fun h => by have := hv.o8 h; simp_all), o10 := (fun h => by have := hv.o10 h; simp_all), o11 := (fun h => by have := hv.o11 h; simp_all), o12 := fun _ => ⟨rfl, rfl⟩ }⟩
  · exact ⟨_, _, _, _, _, _, _, _, _, _, _, _, _, _, _, _, _, _, _, _, _, rfl, rfl, { box := alloc_new _ _, below := ((Below.refl w.heap.size w).alloc (Nat.le_refl _) _).drew, hm := (fun h => by cases h), v4 := (fun h => by cases h), v5 := (fun h => by cases h), v6 := (fun h => by cases h), v7 := (fun h => by cases h), v8 := (fun h => by cases h), v9 := (fun h => by cases h), v0 := (fun h => by cases h), o2 := (fun h => by cases h), o4 := (fun h => by cases h), o6 := (fun h => by cases h), o8 := (fun h => by cases h), o10 := (fun h => by cases h), o11 := (fun h => by cases h), o12 := (fun h => by cases h) }⟩
end Go.Proofs.YtloialpcdedekaaDoor.Ic
