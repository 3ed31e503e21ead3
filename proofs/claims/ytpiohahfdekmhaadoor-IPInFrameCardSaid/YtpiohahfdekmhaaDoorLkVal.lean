/-
  The contracts of link.Valid and link.AddressedTo.
-/
import Derived.Test.YtpiohahfdekmhaaDoorLkPlain
import Derived.Test.YtpiohahfdekmhaaDoorLkErr
namespace Go.Proofs.YtpiohahfdekmhaaDoor.Lk
set_option maxRecDepth 100000
open Go.RowKit Go.Proofs.YtpiohahfdekmhaaDoor.Wire

set_option maxHeartbeats 4000000 in
theorem valid_any (to fm kd : Int) (s : ByteArray) (w : World) (hs : s.size ≤ 9223372036854775807) :
    Calls Tryd.prog 16 #[.agg #[.int .i64 to, .int .i64 fm, .int .i64 kd, .string s]] w fun e w' => e = .returned (.bool (frOkB to fm kd s.size)) ∧ Below w.heap.size w w' := by
  go_enter Tryd.func16, Tryd.ntmps16
  go_wp2
  all_goals
    go_ret
    refine ⟨ret_bool ?_, (Below.refl _ _).alloc (Nat.le_refl _) _⟩
  all_goals
    (try simp only [beq_iff_eq, beq_eq_false_iff_ne, bne_iff_ne, bne_eq_false_iff_eq, Bool.not_eq_true', Bool.not_eq_false', decide_eq_true_eq, decide_eq_false_iff_not, ne_eq] at *)
    first
      | (refine (decide_eq_false (fun h => ?_)).symm; unfold FrOk at h; omega)
      | (refine (decide_eq_true ?_).symm; unfold FrOk; omega)
      | (refine (decide_eq_true ?_).symm; unfold FrOk; simp; omega)
      | (unfold frOkB; exact decide_eq_decide.2 (by unfold FrOk; omega))
theorem addressed_any (to fm kd mac : Int) (s : ByteArray) (w : World) :
    Calls Tryd.prog 11 #[.agg #[.int .i64 to, .int .i64 fm, .int .i64 kd, .string s], .int .i64 mac] w fun e w' => e = .returned (.bool (decide ((to = mac ∨ to = 65535) ∧ fm ≠ mac))) ∧ Below w.heap.size w w' := by
  go_enter Tryd.func11, Tryd.ntmps11
  go_wp2
  all_goals
    go_ret
    refine ⟨ret_bool ?_, (Below.refl _ _).alloc (Nat.le_refl _) _⟩
  all_goals
    first
      | (refine (decide_eq_false (fun h => ?_)).symm; omega)
      | (refine (decide_eq_true ?_).symm; omega)
      | (rw [Bool.eq_iff_iff]; simp; omega)
end Go.Proofs.YtpiohahfdekmhaaDoor.Lk
