/-
  The contracts of the conditions of package icmp: isFailure, Valid.
-/
import Derived.Test.YtloialpcdedekaaDoorIc0
import Derived.Test.YtloialpcdedekaaDoorPlain
namespace Go.Proofs.YtloialpcdedekaaDoor.Ic
set_option maxRecDepth 100000
open Go.RowKit Go.Proofs.YtloialpcdedekaaDoor.Wire

structure Msg where
  kind : Int
  code : Int
  n : Int
  s : ByteArray
def failB (k : Int) : Bool := decide (k = 3 ∨ k = 4 ∨ k = 5)
def knownB (k : Int) : Bool := decide (1 ≤ k ∧ k ≤ 5)
def mostOf (k : Int) : Int := if k = 1 ∨ k = 2 then 500 else if 3 ≤ k ∧ k ≤ 5 then 28 else 0
def Suits (k code n : Int) : Prop := if k = 1 ∨ k = 2 then code = 0 ∧ 0 ≤ n ∧ n ≤ 4294967295 else if k = 3 then (1 ≤ code ∧ code ≤ 4) ∧ n = 0 else if k = 4 then (1 ≤ code ∧ code ≤ 2) ∧ n = 0 else code = 0 ∧ 68 ≤ n ∧ n ≤ 1024
instance (k code n : Int) : Decidable (Suits k code n) := by unfold Suits; infer_instance
def MOk (k code n : Int) (z : Nat) : Prop := (1 ≤ k ∧ k ≤ 5) ∧ Suits k code n ∧ (z : Int) ≤ mostOf k
instance (k code n : Int) (z : Nat) : Decidable (MOk k code n z) := by unfold MOk; infer_instance
def mokB (k code n : Int) (z : Nat) : Bool := decide (MOk k code n z)
def Msg.ok (m : Msg) : Prop := MOk m.kind m.code m.n m.s.size
instance (m : Msg) : Decidable m.ok := by unfold Msg.ok; infer_instance

def ruleV (k : Int) (fn : Value) : Value := .agg #[.bool (failB k), .int .i64 (mostOf k), fn]
/-- the condition's function -/
def FnOf (W : World) (k : Int) (fn : Value) : Prop :=
  ((k = 1 ∨ k = 2) ∧ fn = .func (Fn.func 58) #[] #[]) ∨ (k = 5 ∧ fn = .func (Fn.func 60) #[] #[]) ∨
  ((k = 3 ∨ k = 4) ∧ ∃ a b, fn = .func (Fn.func 65) #[] #[.pointer (some ⟨a, 0, none⟩), .pointer (some ⟨b, 0, none⟩)] ∧ W.heap[a]? = some (.cells #[.int .i64 1] 3 (0, 0)) ∧ W.heap[b]? = some (.cells #[.int .i64 (if k = 3 then 4 else 2)] 3 (0, 0))) ∨
  (¬ (1 ≤ k ∧ k ≤ 5) ∧ fn = .nilFunc)
theorem FnOf.below {W W' : World} {k : Int} {fn : Value} (h : FnOf W k fn) (hb : Below W.heap.size W W') : FnOf W' k fn := by
  rcases h with h | h | ⟨h, a, b, e, ha, hb'⟩ | h
  · exact Or.inl h
  · exact Or.inr (Or.inl h)
  · exact Or.inr (Or.inr (Or.inl ⟨h, a, b, e, bblock hb ha, bblock hb hb'⟩))
  · exact Or.inr (Or.inr (Or.inr h))
theorem zeroRule (W : World) : (zeroValue 93).run Tryd.prog W = .ok (.agg #[.bool false, .int .i64 0, .nilFunc]) W := by kernel_rfl
theorem rules_look {W : World} {r : Nat} (h : IsRules W r) (k : Int) : ∃ fn, FnOf W k fn ∧ ∀ W', W'.heap[r]? = W.heap[r]? → ∀ c, (Instr.lookup 94 (.map (some r)) (.int .i64 k) c).run Tryd.prog W' = .ok (if c then .tuple #[ruleV k fn, .bool (knownB k)] else ruleV k fn) W' := by
  obtain ⟨es, clk, v3, v4, hr, hk, ⟨a, b, e3, ha, hb⟩, ⟨a', b', e4, ha', hb'⟩, hf⟩ := h
  have go : ∀ (v : Option Value) (fn : Value), lookL es.toList k = v → v.getD (.agg #[.bool false, .int .i64 0, .nilFunc]) = ruleV k fn → v.isSome = knownB k → ∀ W' : World, W'.heap[r]? = W.heap[r]? → ∀ c, (Instr.lookup 94 (.map (some r)) (.int .i64 k) c).run Tryd.prog W' = .ok (if c then .tuple #[ruleV k fn, .bool (knownB k)] else ruleV k fn) W' := by
    intro v fn h1 h2 h3 W' hW c
    rw [run_lookup_int k c Tryd.underlying94 Tryd.underlying3 (zeroRule W') (hW.trans hr) hk, h1, h2, h3]
  by_cases h1 : k = 1
  · subst h1; exact ⟨_, Or.inl ⟨Or.inl rfl, rfl⟩, go (some echoV) _ (by rw [hf]; rfl) rfl rfl⟩
  by_cases h2 : k = 2
  · subst h2; exact ⟨_, Or.inl ⟨Or.inr rfl, rfl⟩, go (some echoV) _ (by rw [hf]; rfl) rfl rfl⟩
  by_cases h3 : k = 3
  · subst h3; exact ⟨_, Or.inr (Or.inr (Or.inl ⟨Or.inl rfl, a, b, rfl, ha, hb⟩)), go (some v3) _ (by rw [hf]; rfl) (by rw [e3]; rfl) rfl⟩
  by_cases h4 : k = 4
  · subst h4; exact ⟨_, Or.inr (Or.inr (Or.inl ⟨Or.inr rfl, a', b', rfl, ha', hb'⟩)), go (some v4) _ (by rw [hf]; rfl) (by rw [e4]; rfl) rfl⟩
  by_cases h5 : k = 5
  · subst h5; exact ⟨_, Or.inr (Or.inl ⟨rfl, rfl⟩), go (some bigV) _ (by rw [hf]; rfl) rfl rfl⟩
  refine ⟨_, Or.inr (Or.inr (Or.inr ⟨by omega, rfl⟩)), go none _ (by rw [hf]; simp [h1, h2, h3, h4, h5]) ?_ ?_⟩
  · have e1 : failB k = false := by unfold failB; simp; omega
    have e2 : mostOf k = 0 := by unfold mostOf; rw [if_neg (by omega), if_neg (by omega)]
    simp [ruleV, e1, e2]
  · have : knownB k = false := by unfold knownB; simp; omega
    rw [this]; rfl

theorem echo_suits (k code n : Int) (w : World) (hk : k = 1 ∨ k = 2) :
    Calls Tryd.prog 58 #[.int .i64 code, .int .i64 n] w fun e w' => e = .returned (.bool (decide (Suits k code n))) ∧ w = w' := by
  have hs : decide (Suits k code n) = decide (code = 0 ∧ 0 ≤ n ∧ n ≤ 4294967295) := by unfold Suits; simp [hk]
  rw [hs]
  clear hs hk
  by_cases h0 : code = 0
  · subst h0
    by_cases h1 : 0 ≤ n
    · have d1 : decide (0 ≤ n) = true := by simpa using h1
      by_cases h2 : n ≤ 4294967295
      · have d2 : decide (n ≤ 4294967295) = true := by simpa using h2
        go_enter Tryd.func58, Tryd.ntmps58
        go_wp2_with fail
        go_ret
        exact ⟨ret_bool (by first | rfl | (simp; done) | (simp [h1, h2]; done)), rfl⟩
      · have d2 : decide (n ≤ 4294967295) = false := by simpa using h2
        go_enter Tryd.func58, Tryd.ntmps58
        go_wp2_with fail
        go_ret
        exact ⟨ret_bool (by first | rfl | (simp; done) | (simp [h1, h2]; done)), rfl⟩
    · have d1 : decide (0 ≤ n) = false := by simpa using h1
      go_enter Tryd.func58, Tryd.ntmps58
      go_wp2_with fail
      go_ret
      exact ⟨ret_bool (by first | rfl | (simp; done) | (simp [h1]; done)), rfl⟩
  · have d0 : (code == 0) = false := by simpa using h0
    go_enter Tryd.func58, Tryd.ntmps58
    go_wp2_with fail
    go_ret
    exact ⟨ret_bool (by first | rfl | (simp; done) | (simp [h0]; done)), rfl⟩
theorem big_suits (code n : Int) (w : World) :
    Calls Tryd.prog 60 #[.int .i64 code, .int .i64 n] w fun e w' => e = .returned (.bool (decide (Suits 5 code n))) ∧ w = w' := by
  have hs : decide (Suits 5 code n) = decide (code = 0 ∧ 68 ≤ n ∧ n ≤ 1024) := by unfold Suits; simp
  rw [hs]
  clear hs
  by_cases h0 : code = 0
  · subst h0
    by_cases h1 : 68 ≤ n
    · have d1 : decide (68 ≤ n) = true := by simpa using h1
      by_cases h2 : n ≤ 1024
      · have d2 : decide (n ≤ 1024) = true := by simpa using h2
        go_enter Tryd.func60, Tryd.ntmps60
        go_wp2_with fail
        go_ret
        exact ⟨ret_bool (by first | rfl | (simp; done) | (simp [h1, h2]; done)), rfl⟩
      · have d2 : decide (n ≤ 1024) = false := by simpa using h2
        go_enter Tryd.func60, Tryd.ntmps60
        go_wp2_with fail
        go_ret
        exact ⟨ret_bool (by first | rfl | (simp; done) | (simp [h1, h2]; done)), rfl⟩
    · have d1 : decide (68 ≤ n) = false := by simpa using h1
      go_enter Tryd.func60, Tryd.ntmps60
      go_wp2_with fail
      go_ret
      exact ⟨ret_bool (by first | rfl | (simp; done) | (simp [h1]; done)), rfl⟩
  · have d0 : (code == 0) = false := by simpa using h0
    go_enter Tryd.func60, Tryd.ntmps60
    go_wp2_with fail
    go_ret
    exact ⟨ret_bool (by first | rfl | (simp; done) | (simp [h0]; done)), rfl⟩
theorem coded_suits (hi code n : Int) (a b : Nat) (w : World) (ha : w.heap[a]? = some (.cells #[.int .i64 1] 3 (0, 0))) (hb : w.heap[b]? = some (.cells #[.int .i64 hi] 3 (0, 0))) :
    Calls Tryd.prog 65 #[.int .i64 code, .int .i64 n, .pointer (some ⟨a, 0, none⟩), .pointer (some ⟨b, 0, none⟩)] w fun e w' => e = .returned (.bool (decide ((1 ≤ code ∧ code ≤ hi) ∧ n = 0))) ∧ w = w' := by
  obtain ⟨qa, -⟩ := cell_of_box ha
  obtain ⟨qb, -⟩ := cell_of_box hb
  clear ha hb
  by_cases h0 : 1 ≤ code
  · have d0 : decide (1 ≤ code) = true := by simpa using h0
    by_cases h1 : code ≤ hi
    · have d1 : decide (code ≤ hi) = true := by simpa using h1
      by_cases h2 : n = 0
      · subst h2
        go_enter Tryd.func65, Tryd.ntmps65
        go_wp2_with fail
        go_ret
        exact ⟨ret_bool (by first | rfl | (simp; done) | (simp [h0, h1]; done)), rfl⟩
      · have d2 : (n == 0) = false := by simpa using h2
        go_enter Tryd.func65, Tryd.ntmps65
        go_wp2_with fail
        go_ret
        exact ⟨ret_bool (by first | rfl | (simp; done) | (simp [h0, h1, h2]; done)), rfl⟩
    · have d1 : decide (code ≤ hi) = false := by simpa using h1
      go_enter Tryd.func65, Tryd.ntmps65
      go_wp2_with fail
      go_ret
      exact ⟨ret_bool (by first | rfl | (simp; done) | (simp [h0, h1]; done)), rfl⟩
  · have d0 : decide (1 ≤ code) = false := by simpa using h0
    go_enter Tryd.func65, Tryd.ntmps65
    go_wp2_with fail
    go_ret
    exact ⟨ret_bool (by first | rfl | (simp; done) | (simp [h0]; done)), rfl⟩

theorem field0_run (x y z : Value) (w : World) : (Instr.field 93 (.agg #[x, y, z]) 0).run Tryd.prog w = .ok x w := by kernel_rfl
theorem isFailure_any (k : Int) (w : World) :
    Calls Tryd.prog 26 #[.int .i64 k] w fun e w' => e = .returned (.bool (failB k)) ∧ Below w.heap.size w w' := by
  go_enter Tryd.func26, Tryd.ntmps26
  go_wp2_with fail
  refine (rules_any _).mono ?_
  rintro e w1 ⟨r, rfl, hr, hb⟩
  obtain ⟨fn, hfn, hl⟩ := rules_look hr k
  have hl1 := hl w1 rfl false
  clear hl hfn hr
  unfold ruleV at hl1
  have hfl := field0_run (.bool (failB k)) (.int .i64 (mostOf k)) fn
  go_wp2_with fail
  go_ret
  exact ⟨rfl, hb⟩
end Go.Proofs.YtloialpcdedekaaDoor.Ic
