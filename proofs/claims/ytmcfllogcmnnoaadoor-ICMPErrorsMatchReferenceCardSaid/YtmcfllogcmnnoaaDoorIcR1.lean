/-
  Contracts of the reference of chapter 8: IsError, Valid, put.
-/
import Derived.Test.YtmcfllogcmnnoaaDoorIc10
import Derived.Test.YtmcfllogcmnnoaaDoorRef01
namespace Go.Proofs.YtmcfllogcmnnoaaDoor.Ic
set_option maxRecDepth 100000
open Go.RowKit Go.Proofs.YtmcfllogcmnnoaaDoor.Wire

theorem rIsError_any (k : Int) (w : World) : Calls Tryd.prog 45 #[.int .i64 k] w fun e w' => e = .returned (.bool (failB k)) ∧ w' = w := by
  by_cases h3 : k = 3
  · subst h3
    go_enter Tryd.func45, Tryd.ntmps45
    go_wp2_with fail
    go_ret
    exact ⟨rfl, rfl⟩
  by_cases h4 : k = 4
  · subst h4
    go_enter Tryd.func45, Tryd.ntmps45
    go_wp2_with fail
    go_ret
    exact ⟨rfl, rfl⟩
  by_cases h5 : k = 5
  · subst h5
    go_enter Tryd.func45, Tryd.ntmps45
    go_wp2_with fail
    go_ret
    exact ⟨rfl, rfl⟩
  have e : failB k = false := decide_eq_false (by omega)
  rw [e]
  have q3 : (k == 3) = false := beq_eq_false_iff_ne.2 h3
  have q4 : (k == 4) = false := beq_eq_false_iff_ne.2 h4
  have q5 : (k == 5) = false := beq_eq_false_iff_ne.2 h5
  clear h3 h4 h5 e
  go_enter Tryd.func45, Tryd.ntmps45
  go_wp2_with fail
  go_ret
  exact ⟨rfl, rfl⟩
set_option maxHeartbeats 4000000 in
theorem rMValid_any (k c n : Int) (s : ByteArray) (w : World) (_ : s.size ≤ 9223372036854775807) :
    Calls Tryd.prog 21 #[.agg #[.int .i64 k, .int .i64 c, .int .i64 n, .string s]] w fun e w' => e = .returned (.bool (mokB k c n s.size)) ∧ Below w.heap.size w w' := by
  have HB := below_alloc (o := .cells #[.int .i64 k, .int .i64 c, .int .i64 n, .string s] 23) (Below.refl w.heap.size w)
  have hk : k = 1 ∨ k = 2 ∨ k = 3 ∨ k = 4 ∨ k = 5 ∨ ¬ (1 ≤ k ∧ k ≤ 5) := by omega
  rcases hk with rfl | rfl | rfl | rfl | rfl | hk
  · go_enter Tryd.func21, Tryd.ntmps21
    go_wp2_with fail
    all_goals
      go_ret
      refine ⟨ret_bool ?_, below_alloc (Below.refl _ _)⟩
      rw [Bool.eq_iff_iff]
      unfold mokB MOk Suits mostOf
      simp
      try omega
  · go_enter Tryd.func21, Tryd.ntmps21
    go_wp2_with fail
    all_goals
      go_ret
      refine ⟨ret_bool ?_, below_alloc (Below.refl _ _)⟩
      rw [Bool.eq_iff_iff]
      unfold mokB MOk Suits mostOf
      simp
      try omega
  · go_enter Tryd.func21, Tryd.ntmps21
    go_wp2_with fail
    all_goals
      go_ret
      refine ⟨ret_bool ?_, below_alloc (Below.refl _ _)⟩
      rw [Bool.eq_iff_iff]
      unfold mokB MOk Suits mostOf
      simp
      try omega
  · go_enter Tryd.func21, Tryd.ntmps21
    go_wp2_with fail
    all_goals
      go_ret
      refine ⟨ret_bool ?_, below_alloc (Below.refl _ _)⟩
      rw [Bool.eq_iff_iff]
      unfold mokB MOk Suits mostOf
      simp
      try omega
  · go_enter Tryd.func21, Tryd.ntmps21
    go_wp2_with fail
    all_goals
      go_ret
      refine ⟨ret_bool ?_, below_alloc (Below.refl _ _)⟩
      rw [Bool.eq_iff_iff]
      unfold mokB MOk Suits mostOf
      simp
      try omega
  · have q1 : (k == 1) = false := beq_eq_false_iff_ne.2 (by omega)
    have q2 : (k == 2) = false := beq_eq_false_iff_ne.2 (by omega)
    have q3 : (k == 3) = false := beq_eq_false_iff_ne.2 (by omega)
    have q4 : (k == 4) = false := beq_eq_false_iff_ne.2 (by omega)
    have q5 : (k == 5) = false := beq_eq_false_iff_ne.2 (by omega)
    have e : mokB k c n s.size = false := decide_eq_false (fun q => hk q.1)
    rw [e]
    clear e hk
    go_enter Tryd.func21, Tryd.ntmps21
    go_wp2_with fail
    go_ret
    exact ⟨rfl, HB⟩
theorem rIcPut_any (n b : Int) (w : World) (h1 : 1 ≤ b) (h4 : b ≤ 4) (h0 : 0 ≤ n) (hn : n < 256 ^ b.toNat) :
    Calls Tryd.prog 68 #[.int .i64 n, .int .i64 b] w fun e w' => e = .returned (.string ⟨(be b.toNat n).toArray⟩) ∧ Below w.heap.size w w' := by
  obtain ⟨b, rfl⟩ := Int.eq_ofNat_of_zero_le (by omega : 0 ≤ b)
  rw [Int.toNat_natCast] at *
  have HP := Lib.hid fun W => rput_ok n b W (by omega) (by omega) h0 hn
  go_enter Tryd.func68, Tryd.ntmps68
  go_wp2_with fail
  refine (HP.out _).mono ?_
  rintro e w1 ⟨rfl, hb⟩
  go_wp2_with fail
  go_ret
  exact ⟨rfl, hb⟩
end Go.Proofs.YtmcfllogcmnnoaaDoor.Ic
