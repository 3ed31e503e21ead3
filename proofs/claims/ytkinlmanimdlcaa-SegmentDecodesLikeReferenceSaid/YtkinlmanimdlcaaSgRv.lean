/-
  The contract of the reference's Valid of chapter 11: it says what makes a segment valid.
-/
import Derived.Test.YtkinlmanimdlcaaSgValid2
import Derived.Deep.QuietTactic
import Derived.Deep.RegionHeld3
namespace Go.Proofs.Ytkinlmanimdlcaa.Sg
open Go.RowKit Go.Proofs.Ytkinlmanimdlcaa.Wire

def Prt (n : Int) : Prop := 1 ≤ n ∧ n ≤ 65535
instance (n : Int) : Decidable (Prt n) := by unfold Prt; infer_instance
def Sq (n : Int) : Prop := 0 ≤ n ∧ n ≤ 4294967295
instance (n : Int) : Decidable (Sq n) := by unfold Sq; infer_instance
theorem rport_any (n : Int) (w : World) : Calls Try.prog 38 #[.int .i64 n] w fun e w' => e = .returned (.bool (decide (Prt n))) ∧ w = w' := by
  go_enter Try.func38, Try.ntmps38
  go_wp2
  all_goals
    go_ret
    exact ⟨ret_bool (by first | (rw [Bool.eq_iff_iff]; simp only [decide_eq_true_iff]; unfold Prt; omega) | (exact (decide_eq_false (fun q => by unfold Prt at q; omega)).symm)), rfl⟩
theorem rport_is (n : Int) (b : Bool) (h : decide (Prt n) = b) (w : World) : Calls Try.prog 38 #[.int .i64 n] w fun e w' => e = .returned (.bool b) ∧ w = w' := by
  have := rport_any n w
  rwa [h] at this
theorem rport_q (n : Int) (b : Bool) (h : decide (Prt n) = b) (w : World) : Calls Try.prog 38 #[.int .i64 n] w fun e w' => e = .returned (.bool b) ∧ w' = w := (rport_is n b h w).mono fun _ _ h => ⟨h.1, h.2.symm⟩
theorem rseq_any (n : Int) (w : World) : Calls Try.prog 39 #[.int .i64 n] w fun e w' => e = .returned (.bool (decide (Sq n))) ∧ w = w' := by
  go_enter Try.func39, Try.ntmps39
  go_wp2
  all_goals
    go_ret
    exact ⟨ret_bool (by first | (rw [Bool.eq_iff_iff]; simp only [decide_eq_true_iff]; unfold Sq; omega) | (exact (decide_eq_false (fun q => by unfold Sq at q; omega)).symm)), rfl⟩
theorem rseq_is (n : Int) (b : Bool) (h : decide (Sq n) = b) (w : World) : Calls Try.prog 39 #[.int .i64 n] w fun e w' => e = .returned (.bool b) ∧ w = w' := by
  have := rseq_any n w
  rwa [h] at this
theorem rseq_q (n : Int) (b : Bool) (h : decide (Sq n) = b) (w : World) : Calls Try.prog 39 #[.int .i64 n] w fun e w' => e = .returned (.bool b) ∧ w' = w := (rseq_is n b h w).mono fun _ _ h => ⟨h.1, h.2.symm⟩
theorem rtruth_any (b : Bool) (w : World) : Calls Try.prog 40 #[.bool b] w fun e w' => e = .returned (.int .i64 (if b then 1 else 0)) ∧ w' = w := by
  cases b
  all_goals
    go_enter Try.func40, Try.ntmps40
    go_wp2
    go_ret
    exact ⟨rfl, rfl⟩
/-- blocks of which the reference says yes -/
def RB (bl : List (Int × Int)) : Prop := bl.length ≤ 3 ∧ ∀ (k : Nat) (x : Int × Int), bl[k]? = some x → B1 x
set_option maxRecDepth 100000 in
set_option maxHeartbeats 4000000 in
theorem rblocks_any (A : Option Addr) (n c : Nat) (bl : List (Int × Int)) (w : World) (hn : n ≤ 9223372036854775807) (hb : Bks w A n bl) :
    Calls Try.prog 41 #[.slice A n c] w fun e w' => (∃ b : Bool, (b = true ↔ RB bl) ∧ e = .returned (.bool b)) ∧ Below w.heap.size w w' := by
  have HB0 := Lib.hid hb; clear hb
  have HL := Lib.hid HB0.out.1
  have HB := Below.refl w.heap.size w
  go_enter Try.func41, Try.ntmps41
  go_wp2
  go_loopw [3] (fun i wr => ∃ k : Nat, k ≤ n ∧ i = .int .i64 (k : Int) ∧ (∀ (j : Nat) (y : Int × Int), j < k → bl[j]? = some y → B1 y) ∧ Below w.heap.size w wr) (fun i _ => n - (intOf i).toNat)
  case atStart => exact ⟨0, by omega, rfl, fun j y hj => by omega, HB⟩
  case round =>
    clear HB
    obtain ⟨k, hk, rfl, hok, HB⟩ := hrel
    have HO := Lib.hid hok; clear hok
    by_cases hlt : k < n
    · obtain ⟨g, a, b, rfl, hx, hg, c0, c1⟩ := HB0.out.at_ k hlt
      have HX := Lib.hid hx; clear hx
      have d0 := (HB.cell (p := ⟨g, k * 2, none⟩) hg).trans c0
      have d1 := (HB.cell (p := ⟨g, k * 2 + 1, none⟩) hg).trans c1
      clear c0 c1
      have i0 : (0 : Int) ≤ (k : Int) := by omega
      have i1 : (k : Int) < (n : Int) := by omega
      obtain ⟨wo, rfl⟩ : ∃ wo : World, wo = wr := ⟨_, rfl⟩
      by_cases ha : Sq a
      rotate_left
      · have HA := Lib.hid fun W => rseq_q a false (decide_eq_false ha) W
        have HF : Hid (¬ RB bl) := Lib.hid fun h => by have h1 := h.2 k _ HX.out; unfold B1 at h1; dsimp only at h1; exact ha h1.1
        clear ha
        go_wp2_with fail
        go_quiet (((go_at_call 39; exact Calls.quiet_of_same (HA.out _))))
        go_wp2_with fail
        go_ret
        exact ⟨⟨false, ⟨fun q => (by cases q), fun q => absurd q HF.out⟩, rfl⟩, below_drewN HB _⟩
      by_cases hb : Sq b
      rotate_left
      · have HA := Lib.hid fun W => rseq_q a true (decide_eq_true ha) W
        have HBq := Lib.hid fun W => rseq_q b false (decide_eq_false hb) W
        have HF : Hid (¬ RB bl) := Lib.hid fun h => by have h1 := h.2 k _ HX.out; unfold B1 at h1; dsimp only at h1; exact hb h1.2.1
        clear ha hb
        go_wp2_with fail
        go_quiet ((first | (go_at_call 39; exact Calls.quiet_of_same (HA.out _)) | (go_at_call 39; exact Calls.quiet_of_same (HBq.out _))))
        go_wp2_with fail
        go_ret
        exact ⟨⟨false, ⟨fun q => (by cases q), fun q => absurd q HF.out⟩, rfl⟩, below_drewN HB _⟩
      by_cases hab : a = b
      · have HA := Lib.hid fun W => rseq_q a true (decide_eq_true ha) W
        have HBq := Lib.hid fun W => rseq_q b true (decide_eq_true hb) W
        have hq : (a == b) = true := beq_iff_eq.2 hab
        have HF : Hid (¬ RB bl) := Lib.hid fun h => by have h1 := h.2 k _ HX.out; unfold B1 at h1; dsimp only at h1; exact h1.2.2 hab
        clear ha hb hab
        go_wp2_with fail
        go_quiet ((first | (go_at_call 39; exact Calls.quiet_of_same (HA.out _)) | (go_at_call 39; exact Calls.quiet_of_same (HBq.out _))))
        go_wp2_with fail
        go_ret
        exact ⟨⟨false, ⟨fun q => (by cases q), fun q => absurd q HF.out⟩, rfl⟩, below_drewN HB _⟩
      · have HA := Lib.hid fun W => rseq_q a true (decide_eq_true ha) W
        have HBq := Lib.hid fun W => rseq_q b true (decide_eq_true hb) W
        have hq : (a == b) = false := beq_eq_false_iff_ne.2 hab
        have HG : Hid (B1 (a, b)) := Lib.hid ⟨ha, hb, hab⟩
        clear ha hb hab
        go_wp2_with fail
        go_quiet ((first | (go_at_call 39; exact Calls.quiet_of_same (HA.out _)) | (go_at_call 39; exact Calls.quiet_of_same (HBq.out _))))
        go_wp2_with fail
        go_roundw
        case rel => exact ⟨k + 1, by omega, by go_num, fun j y => VB_take_succ HX.out HO.out HG.out j y, below_drewN HB _⟩
        case measure => simp [intOf]; omega
    · obtain rfl : k = n := by omega
      go_wp2
      go_ret
      refine ⟨⟨_, ?_, rfl⟩, HB⟩
      rw [decide_eq_true_iff]
      have hl := HL.out
      constructor
      · intro h
        refine ⟨by omega, fun j y hy => HO.out j y ?_ hy⟩
        have := (List.getElem?_eq_some_iff.1 hy).1
        omega
      · intro h
        have := h.1
        omega
end Go.Proofs.Ytkinlmanimdlcaa.Sg
