/-
  The contract of Lower.
-/
import Derived.Test.YtmcfllogcmnnoaaDoorPath6
namespace Go.Proofs.YtmcfllogcmnnoaaDoor.Ic
set_option maxRecDepth 100000
open Go.RowKit Go.Proofs.YtmcfllogcmnnoaaDoor.Wire

theorem adrValid_any (a : Int) (w : World) : Calls Tryd.prog 55 #[.int .i64 a] w fun e w' => e = .returned (.bool (decide (0 ≤ a ∧ a ≤ 4294967295))) ∧ Below w.heap.size w w' := by
  by_cases h0 : 0 ≤ a
  · by_cases h1 : a ≤ 4294967295
    · have e : decide (0 ≤ a ∧ a ≤ 4294967295) = true := decide_eq_true ⟨h0, h1⟩
      rw [e]; clear e
      go_enter Tryd.func55, Tryd.ntmps55
      go_wp2
      go_ret
      exact ⟨rfl, Below.refl _ _⟩
    · have e : decide (0 ≤ a ∧ a ≤ 4294967295) = false := decide_eq_false (fun h => h1 h.2)
      rw [e]; clear e
      go_enter Tryd.func55, Tryd.ntmps55
      go_wp2
      go_ret
      exact ⟨rfl, Below.refl _ _⟩
  · have e : decide (0 ≤ a ∧ a ≤ 4294967295) = false := decide_eq_false (fun h => h0 h.1)
    rw [e]; clear e
    go_enter Tryd.func55, Tryd.ntmps55
    go_wp2
    go_ret
    exact ⟨rfl, Below.refl _ _⟩
theorem lower_no (B : Nat) (now to size : Int) (w : World) (h : ¬ lowOk now to size) :
    Calls Tryd.prog 30 #[.pointer (some ⟨B, 0, none⟩), .int .i64 now, .int .i64 to, .int .i64 size] w fun e w' => e = .returned (.bool false) ∧ Below w.heap.size w w' := by
  have HB := below_alloc (o := .cells #[.int .i64 now] 3) (Below.refl w.heap.size w)
  have HN := (cell_new w (.int .i64 now) 3).1
  have HV := Lib.hid fun W => adrValid_any to W
  by_cases h1 : now < 0
  · go_enter Tryd.func30, Tryd.ntmps30
    go_wp2_with fail
    go_ret
    exact ⟨rfl, HB⟩
  by_cases h2 : 1000000000 < now
  · go_enter Tryd.func30, Tryd.ntmps30
    go_wp2_with fail
    go_ret
    exact ⟨rfl, HB⟩
  by_cases h3 : 0 ≤ to ∧ to ≤ 4294967295
  · rw [decide_eq_true h3] at HV
    have h4 : size < 68 ∨ 1024 < size := by unfold lowOk at h; omega
    clear h h3
    rcases h4 with h4 | h4
    · go_enter Tryd.func30, Tryd.ntmps30
      go_wp2_with fail
      refine (HV.out _).mono ?_
      rintro e w2 ⟨rfl, hb⟩
      go_wp2_with fail
      go_ret
      exact ⟨rfl, below_call HB hb⟩
    · have h5 : ¬ size < 68 := by omega
      go_enter Tryd.func30, Tryd.ntmps30
      go_wp2_with fail
      refine (HV.out _).mono ?_
      rintro e w2 ⟨rfl, hb⟩
      go_wp2_with fail
      go_ret
      exact ⟨rfl, below_call HB hb⟩
  · rw [decide_eq_false h3] at HV
    clear h h3
    go_enter Tryd.func30, Tryd.ntmps30
    go_wp2_with fail
    refine (HV.out _).mono ?_
    rintro e w2 ⟨rfl, hb⟩
    go_wp2_with fail
    go_ret
    exact ⟨rfl, below_call HB hb⟩
end Go.Proofs.YtmcfllogcmnnoaaDoor.Ic
