/-
  An entry that is in use stays, whatever is asked for, resolved or left unanswered (plain data).
-/
import Derived.Test.YtjdoemmfemogmaaArInv
namespace Go.Proofs.Ytjdoemmfemogmaa.Ar
set_option maxRecDepth 100000
open Go.RowKit Go.Proofs.Ytjdoemmfemogmaa.Wire
theorem look_upd_same {A : AL} {k : Int} {v : Ev} (h : look A k ≠ none) : look (upd A k v) k = some v := by
  induction A with
  | nil => exact absurd rfl h
  | cons x A ih =>
    unfold look upd at *
    rw [List.map_cons, List.find?_cons]
    by_cases hx : x.1 = k
    · simp [hx]
    · rw [List.find?_cons] at h
      simp only [hx, decide_false, if_false] at h ⊢
      exact ih h
theorem look_upd_ne {A : AL} {k a : Int} {v : Ev} (h : a ≠ k) : look (upd A k v) a = look A a := by
  induction A with
  | nil => rfl
  | cons x A ih =>
    unfold look upd at *
    rw [List.map_cons, List.find?_cons, List.find?_cons]
    by_cases hx : x.1 = k
    · have h2 : ¬ x.1 = a := fun e => h (by rw [← e, hx])
      have h3 : ¬ k = a := fun e => h e.symm
      rw [if_pos hx]
      simp only [h2, h3, decide_false]
      exact ih
    · by_cases h2 : x.1 = a
      · rw [if_neg hx]; simp [h2]
      · simp only [hx, if_false, h2, decide_false]
        exact ih
theorem look_app {A B : AL} {a : Int} {v : Ev} (h : look A a = some v) : look (A ++ B) a = some v := by
  unfold look at *
  rw [List.find?_append]
  obtain ⟨x, hx, rfl⟩ := Option.map_eq_some_iff.1 h
  rw [hx]; rfl
theorem look_filter {A : AL} {a k : Int} (h : a ≠ k) : look (A.filter fun x => decide (x.1 ≠ k)) a = look A a := by
  induction A with
  | nil => rfl
  | cons x A ih =>
    unfold look at *
    by_cases hx : x.1 = k
    · rw [List.filter_cons_of_neg (by simp [hx]), List.find?_cons]
      have h2 : ¬ x.1 = a := fun e => h (by rw [← e, hx])
      simp only [h2, decide_false]; exact ih
    · rw [List.filter_cons_of_pos (by simp [hx]), List.find?_cons, List.find?_cons]
      by_cases h2 : x.1 = a
      · simp [h2]
      · simp only [h2, decide_false]; exact ih
/-- in use at a time -/
structure Use (A : AL) (a now : Int) : Prop where
  inv : Inv A now
  has : look A a = some (.res 77 0 now)
theorem use_a {c : Tc} {A : AL} {a i : Int} (h : Use A a i) (hi : 0 ≤ i) (s : ByteArray) (h1 : ¬ (uniB a = false ∨ a = c.own ∨ 1024 < s.size)) : sendF c A (i + 1) a s = (upd A a (.res 77 0 (i + 1)), 77, [], 0) ∧ Use (upd A a (.res 77 0 (i + 1))) a (i + 1) := by
  have hl := h.has
  have e : sendF c A (i + 1) a s = (upd A a (.res 77 0 (i + 1)), 77, [], 0) := by
    unfold sendF; rw [if_neg h1, hl]
  refine ⟨e, ?_, look_upd_same (by rw [hl]; simp)⟩
  have := (h.inv.mono (now' := i + 1) (by omega)).send (by omega) c a s
  rw [e] at this; exact this
theorem use_b {c : Tc} {A : AL} {a i b : Int} (h : Use A a i) (hi : 0 ≤ i) (hb : a ≠ b) (s : ByteArray) : Use (sendF c (upd A a (.res 77 0 (i + 1))) (i + 1) b s).1 a (i + 1) := by
  have hu : Use (upd A a (.res 77 0 (i + 1))) a (i + 1) := ⟨(h.inv.mono (now' := i + 1) (by omega)).upd (look_key h.has) (by unfold EvI; omega), look_upd_same (by rw [h.has]; simp)⟩
  refine ⟨hu.inv.send (by omega) c b s, ?_⟩
  unfold sendF
  by_cases h1 : uniB b = false ∨ b = c.own ∨ 1024 < s.size
  · rw [if_pos h1]; exact hu.has
  · rw [if_neg h1]
    cases hl : look (upd A a (.res 77 0 (i + 1))) b with
    | none =>
      dsimp only
      refine look_app ?_
      unfold roomA
      split
      · rename_i h16
        rw [look_filter ?_]
        · exact hu.has
        · refine (vic_not (a := a) (now := i + 1) (by omega) hu.inv.nod (by omega) (fun x hx => ⟨by have := hu.inv.key x hx; omega, fun e => ?_, fun e m si u hv => ?_⟩)).symm
          · have := look_uniq hu.inv.nod hu.has hx e
            rw [this]; exact ⟨_, _, rfl⟩
          · rcases mem_upd hx with q | q
            · rw [q] at e; exact absurd rfl e
            · have := h.inv.ev x q
              rw [hv] at this
              unfold EvI at this; omega
      · exact hu.has
    | some v =>
      cases v with
      | inc held sent first last => exact (look_upd_ne hb).trans hu.has
      | res mac since used => exact (look_upd_ne hb).trans hu.has
theorem use_recv {c : Tc} {A : AL} {a now : Int} (h : Use A a now) (h0 : 0 ≤ now) (X : Am) (hX : a ≠ X.f) : Use (recvA c A now X).2.1 a now := by
  refine ⟨h.inv.recv h0 c X, ?_⟩
  unfold recvA
  split
  · exact h.has
  split
  · split <;> exact h.has
  split
  · exact h.has
  cases hl : look A X.f with
  | none => exact h.has
  | some v =>
    cases v with
    | inc held sent first last => exact (look_upd_ne hX).trans h.has
    | res mac since used => exact h.has
theorem recv_c0 {c : Tc} {A : AL} {now : Int} {X : Am} (h : X.f ≠ c.own) : (recvA c A now X).1 = c := by
  unfold recvA
  split
  · rfl
  · try rw [if_neg h]
    split
    · rfl
    · split <;> rfl
theorem use_tick {c : Tc} {A : AL} {a now : Int} (h : Use A a now) (h0 : 0 ≤ now) (h6 : now < 600) : Use (tickA c A now).1 a now := by
  have hi := h.inv.tick h0 c
  refine ⟨hi, look_of_mem hi.nod ?_⟩
  unfold tickA
  rw [List.mem_filterMap]
  refine ⟨_, look_mem h.has, ?_⟩
  unfold tick1
  have : agedB now 0 600 = false := by unfold agedB; exact decide_eq_false (by omega)
  dsimp only; rw [this]; rfl
end Go.Proofs.Ytjdoemmfemogmaa.Ar
