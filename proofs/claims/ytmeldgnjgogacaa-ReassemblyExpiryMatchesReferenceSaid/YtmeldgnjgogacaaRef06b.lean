/-
  Contract of the reference of chapter 6: Valid.
-/
import Derived.Test.YtmeldgnjgogacaaRef06a
namespace Go.Proofs.Ytmeldgnjgogacaa.Ip
set_option maxRecDepth 100000
open Go.RowKit Go.Proofs.Ytmeldgnjgogacaa.Wire
set_option maxRecDepth 100000 in
set_option maxHeartbeats 4000000 in
theorem rvalid_some (f t pr ttl id : Int) (df mf : Bool) (off : Int) (s : ByteArray) (w : World) (hs : s.size ≤ 1000000) (hs1 : 1 ≤ s.size) (hne : ¬ s = ByteArray.empty) :
    Calls Try.prog 40 #[.agg #[.int .i64 f, .int .i64 t, .int .i64 pr, .int .i64 ttl, .int .i64 id, .bool df, .bool mf, .int .i64 off, .string s]] w fun e w' => e = .returned (.bool (vlenB f t pr ttl id df mf off s.size)) ∧ Below w.heap.size w w' := by
  cases df <;> cases mf
  all_goals
    go_enter Try.func40, Try.ntmps40
    go_wp2
  all_goals
    go_ret
    refine ⟨ret_bool ?_, (Below.refl _ _).alloc (Nat.le_refl _) _⟩
  all_goals
    generalize s.size = n at *
    (try simp only [beq_eq_false_iff_ne, ne_eq] at *)
    first
      | (refine (decide_eq_false (fun h => ?_)).symm; unfold VLen at h; first | (simp at h; done) | (simp at h; omega))
      | (refine (decide_eq_true ?_).symm; unfold VLen; simp; omega)
      | (unfold vlenB VLen; rw [Bool.eq_iff_iff]; simp; omega)
theorem rvalid_any (f t pr ttl id : Int) (df mf : Bool) (off : Int) (s : ByteArray) (w : World) (hs : s.size ≤ 1000000) :
    Calls Try.prog 40 #[.agg #[.int .i64 f, .int .i64 t, .int .i64 pr, .int .i64 ttl, .int .i64 id, .bool df, .bool mf, .int .i64 off, .string s]] w fun e w' => e = .returned (.bool (vlenB f t pr ttl id df mf off s.size)) ∧ Below w.heap.size w w' := by
  by_cases h : s = ByteArray.empty
  · subst h; exact rvalid_none f t pr ttl id df mf off w
  · refine rvalid_some f t pr ttl id df mf off s w hs ?_ h
    rcases Nat.lt_or_ge s.size 1 with c | c
    · exact absurd (ByteArray.size_eq_zero_iff.1 (by omega)) h
    · exact c
end Go.Proofs.Ytmeldgnjgogacaa.Ip
