/-
  Contracts of ip.Valid and ip.validLength.
-/
import Derived.Test.YtpiohahfdekmhaaDoorBase1
import Derived.Test.YtpiohahfdekmhaaDoorRows
namespace Go.Proofs.YtpiohahfdekmhaaDoor.Ip
set_option maxRecDepth 100000
open Go.RowKit Go.Proofs.YtpiohahfdekmhaaDoor.Wire

def VLen (f t pr ttl id : Int) (df mf : Bool) (off len : Int) : Prop :=
  (1 ≤ f ∧ f ≤ 4294967294 ∧ 1 ≤ t ∧ t ≤ 4294967295) ∧ (0 ≤ pr ∧ pr ≤ 255 ∧ 1 ≤ ttl ∧ ttl ≤ 255 ∧ 0 ≤ id ∧ id ≤ 65535) ∧ (0 ≤ off ∧ off ≤ 4000 ∧ off % 8 = 0 ∧ off + len ≤ 4000) ∧ (mf = true → len ≠ 0 ∧ len % 8 = 0) ∧ (0 < off → len ≠ 0) ∧ (df = true → mf = false ∧ off = 0)
instance (f t pr ttl id : Int) (df mf : Bool) (off len : Int) : Decidable (VLen f t pr ttl id df mf off len) := by unfold VLen; infer_instance
def vlenB (f t pr ttl id : Int) (df mf : Bool) (off len : Int) : Bool := decide (VLen f t pr ttl id df mf off len)

set_option maxRecDepth 100000 in
set_option maxHeartbeats 4000000 in
theorem validLength_any (f t pr ttl id : Int) (df mf : Bool) (off : Int) (s : ByteArray) (len : Int) (w : World) (h0 : 0 ≤ len) (h1 : len ≤ 9223372036854775807) :
    Calls Tryd.prog 28 #[.agg #[.int .i64 f, .int .i64 t, .int .i64 pr, .int .i64 ttl, .int .i64 id, .bool df, .bool mf, .int .i64 off, .string s], .int .i64 len] w fun e w' => e = .returned (.bool (vlenB f t pr ttl id df mf off len)) ∧ Below w.heap.size w w' := by
  cases df <;> cases mf
  all_goals
    go_enter Tryd.func28, Tryd.ntmps28
    go_wp2
  all_goals
    go_ret
    refine ⟨ret_bool ?_, (Below.refl _ _).alloc (Nat.le_refl _) _⟩
  all_goals
    (try simp only [beq_iff_eq, beq_eq_false_iff_ne, bne_iff_ne, bne_eq_false_iff_eq, Bool.not_eq_true', Bool.not_eq_false', decide_eq_true_eq, decide_eq_false_iff_not, ne_eq] at *)
    first
      | (refine (decide_eq_false (fun h => ?_)).symm; unfold VLen at h; first | (simp at h; done) | (simp at h; omega))
      | (refine (decide_eq_true ?_).symm; unfold VLen; simp; omega)
      | (unfold vlenB VLen; rw [Bool.eq_iff_iff]; simp; omega)

def pkV (f t pr ttl id : Int) (df mf : Bool) (off : Int) (s : ByteArray) : Value := .agg #[.int .i64 f, .int .i64 t, .int .i64 pr, .int .i64 ttl, .int .i64 id, .bool df, .bool mf, .int .i64 off, .string s]
theorem valid_any (f t pr ttl id : Int) (df mf : Bool) (off : Int) (s : ByteArray) (w : World) (hs : s.size ≤ 9223372036854775807) :
    Calls Tryd.prog 26 #[.agg #[.int .i64 f, .int .i64 t, .int .i64 pr, .int .i64 ttl, .int .i64 id, .bool df, .bool mf, .int .i64 off, .string s]] w fun e w' => e = .returned (.bool (vlenB f t pr ttl id df mf off s.size)) ∧ Below w.heap.size w w' := by
  go_enter Tryd.func26, Tryd.ntmps26
  go_wp2_with fail
  refine (validLength_any f t pr ttl id df mf off s s.size _ (by omega) (by omega)).mono ?_
  rintro e w1 ⟨rfl, hb1⟩
  go_wp2_with fail
  go_ret
  exact ⟨rfl, below_call (below_alloc (Below.refl _ _)) hb1⟩
end Go.Proofs.YtpiohahfdekmhaaDoor.Ip
