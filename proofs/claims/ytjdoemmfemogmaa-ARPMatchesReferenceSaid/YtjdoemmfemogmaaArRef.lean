/-
  The reference of chapter 5: Ones, Link, Valid, put, Encode.
-/
import Derived.Test.YtjdoemmfemogmaaArEnc
import Derived.Test.YtjdoemmfemogmaaRef01
import Derived.BigQuiet
import Derived.RegionTactic
import Derived.Deep.QuietTactic
namespace Go.Proofs.Ytjdoemmfemogmaa.Ar
set_option maxRecDepth 100000
open Go.RowKit Go.Proofs.Ytjdoemmfemogmaa.Wire

theorem ones_any (a : Int) (w : World) : Calls Try.prog 43 #[.int .i64 a] w fun e w' => e = .returned (.bool (uniB a)) ∧ w = w' := by
  go_enter Try.func43, Try.ntmps43
  go_wp2
  all_goals
    go_ret
    refine ⟨ret_bool ?_, rfl⟩
    unfold uniB
    rw [Bool.eq_iff_iff]; simp; try omega
theorem link_any (a : Int) (w : World) : Calls Try.prog 44 #[.int .i64 a] w fun e w' => e = .returned (.bool (umacB a)) ∧ w = w' := by
  go_enter Try.func44, Try.ntmps44
  go_wp2
  all_goals
    go_ret
    refine ⟨ret_bool ?_, rfl⟩
    unfold umacB
    rw [Bool.eq_iff_iff]; simp; try omega
set_option maxHeartbeats 4000000 in
theorem rvalid_any (op f fm t tm : Int) (w : World) : Calls Try.prog 17 #[.agg #[.int .i64 op, .int .i64 f, .int .i64 fm, .int .i64 t, .int .i64 tm]] w fun e w' => e = .returned (.bool (Am.okB ⟨op, f, fm, t, tm⟩)) ∧ Below w.heap.size w w' := by
  go_enter Try.func17, Try.ntmps17
  have e1 : Am.okB ⟨op, f, fm, t, tm⟩ = (uniB f && uniB t && umacB fm && ((op == 1) && (tm == 0) || (op == 2) && umacB tm)) := by
    rw [Bool.eq_iff_iff, Am.okB_iff]
    unfold Am.ok uniB umacB
    simp; try omega
  have HE := Lib.hid e1; clear e1
  obtain ⟨bf, hbf⟩ : ∃ b, uniB f = b := ⟨_, rfl⟩
  obtain ⟨bt, hbt⟩ : ∃ b, uniB t = b := ⟨_, rfl⟩
  obtain ⟨bm, hbm⟩ : ∃ b, umacB fm = b := ⟨_, rfl⟩
  obtain ⟨bn, hbn⟩ : ∃ b, umacB tm = b := ⟨_, rfl⟩
  have H1 : Hid (∀ W, Calls Try.prog 43 #[.int .i64 f] W fun e w' => e = .returned (.bool bf) ∧ W = w') := Lib.hid (fun W => hbf ▸ ones_any f W)
  have H2 : Hid (∀ W, Calls Try.prog 43 #[.int .i64 t] W fun e w' => e = .returned (.bool bt) ∧ W = w') := Lib.hid (fun W => hbt ▸ ones_any t W)
  have H3 : Hid (∀ W, Calls Try.prog 44 #[.int .i64 fm] W fun e w' => e = .returned (.bool bm) ∧ W = w') := Lib.hid (fun W => hbm ▸ link_any fm W)
  have H4 : Hid (∀ W, Calls Try.prog 44 #[.int .i64 tm] W fun e w' => e = .returned (.bool bn) ∧ W = w') := Lib.hid (fun W => hbn ▸ link_any tm W)
  rw [hbf, hbt, hbm, hbn] at HE
  clear hbf hbt hbm hbn
  cases bf <;> cases bt <;> cases bm <;> cases bn
  all_goals
    go_wp2_with (first | (go_at_call 43; (with_reducible refine (H1.out _).mono ?_); rintro e w' ⟨rfl, rfl⟩) | (go_at_call 43; (with_reducible refine (H2.out _).mono ?_); rintro e w' ⟨rfl, rfl⟩) | (go_at_call 44; (with_reducible refine (H3.out _).mono ?_); rintro e w' ⟨rfl, rfl⟩) | (go_at_call 44; (with_reducible refine (H4.out _).mono ?_); rintro e w' ⟨rfl, rfl⟩))
  all_goals
    go_ret
    refine ⟨ret_bool ?_, (Below.refl _ _).alloc (Nat.le_refl _) _⟩
    rw [HE.out]
    simp_all
end Go.Proofs.Ytjdoemmfemogmaa.Ar
