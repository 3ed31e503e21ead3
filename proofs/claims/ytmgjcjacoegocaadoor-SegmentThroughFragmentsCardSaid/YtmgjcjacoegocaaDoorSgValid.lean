/-
  Contracts of segment.Valid and of the tests that it is made of.
-/
import Derived.Test.YtmgjcjacoegocaaDoorSg0
import Derived.Deep.DeepCutAuto
import Derived.BigQuiet
import Derived.Outline
namespace Go.Proofs.YtmgjcjacoegocaaDoor.Sg
open Go.RowKit Go.Proofs.YtmgjcjacoegocaaDoor.Wire

set_option maxRecDepth 100000 in
set_option maxHeartbeats 4000000 in
theorem validNumbers_any (fp tp sq ack : Int) (syn fin rst ha : Bool) (win mss : Int) (sacks : Bool) (A : Option Addr) (n c : Nat) (s : ByteArray) (w : World) :
    Calls Tryd.prog 61 #[.agg #[.int .i64 fp, .int .i64 tp, .int .i64 sq, .int .i64 ack, .bool syn, .bool fin, .bool rst, .bool ha, .int .i64 win, .int .i64 mss, .bool sacks, .slice A n c, .string s]] w fun e w' => e = .returned (.bool (vnB fp tp sq ack ha win)) ∧ Below w.heap.size w w' := by
  cases ha
  all_goals
    go_enter Tryd.func61, Tryd.ntmps61
    go_wp2
  all_goals
    go_ret
    refine ⟨ret_bool ?_, (Below.refl _ _).alloc (Nat.le_refl _) _⟩
  all_goals
    (try simp only [beq_iff_eq, beq_eq_false_iff_ne, bne_iff_ne, bne_eq_false_iff_eq, Bool.not_eq_true', Bool.not_eq_false', decide_eq_true_eq, decide_eq_false_iff_not, ne_eq] at *)
    first
      | (refine (decide_eq_false (fun h => ?_)).symm; unfold VN at h; first | (simp at h; done) | (simp at h; omega))
      | (refine (decide_eq_true ?_).symm; unfold VN; simp; omega)
      | (unfold vnB VN; rw [Bool.eq_iff_iff]; simp; omega)

set_option maxRecDepth 100000 in
set_option maxHeartbeats 4000000 in
theorem validFlags_any (fp tp sq ack : Int) (syn fin rst ha : Bool) (win mss : Int) (sacks : Bool) (A : Option Addr) (n c : Nat) (s : ByteArray) (w : World) :
    Calls Tryd.prog 62 #[.agg #[.int .i64 fp, .int .i64 tp, .int .i64 sq, .int .i64 ack, .bool syn, .bool fin, .bool rst, .bool ha, .int .i64 win, .int .i64 mss, .bool sacks, .slice A n c, .string s]] w fun e w' => e = .returned (.bool (vfB syn fin rst mss sacks)) ∧ Below w.heap.size w w' := by
  cases syn <;> cases fin <;> cases rst <;> cases sacks
  all_goals
    go_enter Tryd.func62, Tryd.ntmps62
    go_wp2
  all_goals
    go_ret
    refine ⟨ret_bool ?_, (Below.refl _ _).alloc (Nat.le_refl _) _⟩
  all_goals
    (try simp only [beq_iff_eq, beq_eq_false_iff_ne, bne_iff_ne, bne_eq_false_iff_eq, Bool.not_eq_true', Bool.not_eq_false', decide_eq_true_eq, decide_eq_false_iff_not, ne_eq] at *)
    first
      | (refine (decide_eq_false (fun h => ?_)).symm; unfold VF at h; first | (simp at h; done) | (simp at h; omega))
      | (refine (decide_eq_true ?_).symm; unfold VF; first | (simp; done) | (simp; omega))
      | (unfold vfB VF; rw [Bool.eq_iff_iff]; simp; omega)
end Go.Proofs.YtmgjcjacoegocaaDoor.Sg
