/-
  The contract of the reference's label.
-/
import Derived.Test.YthdggmigjddneaaDnVal
import Derived.Deep.DeepCutAuto
namespace Go.Proofs.Ythdggmigjddneaa.Dn
set_option maxRecDepth 100000
open Go.RowKit Go.Proofs.Ythdggmigjddneaa.Wire

def inN (n : Nat) : Prop := (97 ≤ n ∧ n ≤ 122) ∨ (48 ≤ n ∧ n ≤ 57) ∨ n = 45
theorem inLab_iff (b : UInt8) : inLab b = true ↔ inN b.toNat := by
  have h45 : (b = 45) ↔ b.toNat = 45 := ⟨fun e => by rw [e]; rfl, fun e => UInt8.toNat_inj.1 e⟩
  unfold inLab inN; simp [h45, or_assoc]
set_option maxHeartbeats 4000000 in
theorem rlab_any (x : ByteArray) (w : World) (hx : x.size ≤ 1000000) :
    Calls Try.prog 27 #[.string x] w fun e w' => e = .returned (.bool (labB x.data.toList)) ∧ w = w' := by
  by_cases h1 : 1 ≤ x.size
  · by_cases h20 : x.size ≤ 20
    · have HLB2 := Lib.hid (labB_bytes x h1 h20)
      generalize labB x.data.toList = lb at *
      have b0 : (0 : Int) < (x.size : Int) := by omega
      have b1 : (0 : Int) ≤ (x.size : Int) - 1 := by omega
      have b2 : (x.size : Int) - 1 < (x.size : Int) := by omega
      have b3 : ((x.size : Int) - 1).toNat = x.size - 1 := by omega
      have b4 : x.size - 1 < x.size := by omega
      have b5 : decide ((x.size : Int) < 1) = false := by simp; omega
      have b6 : decide ((20 : Int) < (x.size : Int)) = false := by simp; omega
      by_cases hf : x[0].toNat = 45
      · have b7 : ((x[0].toNat : Int) == 45) = true := by simp; omega
        go_enter Try.func27, Try.ntmps27
        go_wp2_with fail
        go_ret
        exact ⟨ret_bool (by rw [HLB2.out, decide_eq_true hf]; simp), rfl⟩
      · have b7 : ((x[0].toNat : Int) == 45) = false := by simp; omega
        by_cases hg : (x[x.size - 1]'(by omega)).toNat = 45
        · have b8 : (((x[x.size - 1]'(by omega)).toNat : Int) == 45) = true := by simp; omega
          go_enter Try.func27, Try.ntmps27
          go_wp2_with fail
          go_ret
          exact ⟨ret_bool (by rw [HLB2.out, decide_eq_true hg]; simp), rfl⟩
        · have b8 : (((x[x.size - 1]'(by omega)).toNat : Int) == 45) = false := by simp; omega
          rw [decide_eq_false hf, decide_eq_false hg] at HLB2
          go_enter Try.func27, Try.ntmps27
          go_wp2_with fail
          go_loopw [3] (fun u wr => ∃ k : Nat, k ≤ x.size ∧ u = .int .i64 (k : Int) ∧ wr = w ∧ ∀ j (h : j < x.size), j < k → inLab (x[j]'h) = true) (fun u wr => x.size - (intOf u).toNat)
          case atStart => exact ⟨0, by omega, rfl, rfl, fun j h q => by omega⟩
          case round =>
            obtain ⟨k, hk, rfl, rfl, hin⟩ := hrel
            have HIn := Lib.hid hin; clear hin
            clear b7 b8
            by_cases hlt : k < x.size
            · have hkl : decide ((k : Int) < (x.size : Int)) = true := by simp; omega
              have hk1 : (k : Int) < (x.size : Int) := by omega
              have hk0 : (0 : Int) ≤ (k : Int) := by omega
              have HC : Hid (inN x[k].toNat → ∀ j (h : j < x.size), j < k + 1 → inLab (x[j]'h) = true) := Lib.hid fun hi j h q => by
                by_cases e : j = k
                · subst e; exact (inLab_iff _).2 hi
                · exact HIn.out j h (by omega)
              have HS : Hid (¬ inN x[k].toNat → false = lb) := Lib.hid fun hi => by
                rw [HLB2.out, show x.data.toList.all inLab = false from List.all_eq_false.2 ⟨x[k], List.getElem_mem (l := x.data.toList) hlt, fun h => hi ((inLab_iff _).1 h)⟩]
                simp
              unfold inN at HC HS
              rcases (Decidable.em (x[k].toNat = 45)) with h45 | h45
              · have h46 : ((x[k].toNat : Int) != 45) = false := by simp; omega
                skip
                go_wp2_with fail
                all_goals
                  first
                    | exact ⟨⟨k + 1, by omega, by go_num, trivial, HC.out (by omega)⟩, by simp [Go.RowKit.intOf]; omega⟩
                    | (go_ret; exact ⟨ret_bool (HS.out (by omega)), rfl⟩)
                    | (exfalso; rename_i hh; simp at hh; omega)
              · have h46 : ((x[k].toNat : Int) != 45) = true := by simp; omega
                skip
                go_wp2_with fail
                all_goals
                  first
                    | exact ⟨⟨k + 1, by omega, by go_num, trivial, HC.out (by omega)⟩, by simp [Go.RowKit.intOf]; omega⟩
                    | (go_ret; exact ⟨ret_bool (HS.out (by omega)), rfl⟩)
                    | (exfalso; rename_i hh; simp at hh; omega)
            · have hkl : decide ((k : Int) < (x.size : Int)) = false := by simp; omega
              go_wp2_with fail
              go_ret
              refine ⟨ret_bool ?_, rfl⟩
              rw [HLB2.out, show x.data.toList.all inLab = true from List.all_eq_true.2 fun y hy => by
                obtain ⟨m, hm', rfl⟩ := List.getElem_of_mem hy
                exact HIn.out m hm' (by have : m < x.size := hm'; omega)]
              rfl
    · have b5 : decide ((x.size : Int) < 1) = false := by simp; omega
      have b6 : decide ((20 : Int) < (x.size : Int)) = true := by simp; omega
      have HF := Lib.hid (labB_short x (by omega))
      generalize labB x.data.toList = lb at *
      go_enter Try.func27, Try.ntmps27
      go_wp2_with fail
      go_ret
      exact ⟨ret_bool HF.out.symm, rfl⟩
  · have b5 : decide ((x.size : Int) < 1) = true := by simp; omega
    have HF := Lib.hid (labB_short x (by omega))
    generalize labB x.data.toList = lb at *
    go_enter Try.func27, Try.ntmps27
    go_wp2_with fail
    go_ret
    exact ⟨ret_bool HF.out.symm, rfl⟩
end Go.Proofs.Ythdggmigjddneaa.Dn
