/-
  The contract of the reference's ValidName.
-/
import Derived.Test.YthdggmigjddneaaDnRlb
namespace Go.Proofs.Ythdggmigjddneaa.Dn
set_option maxRecDepth 100000
open Go.RowKit Go.Proofs.Ythdggmigjddneaa.Wire Go.Proofs.Ythdggmigjddneaa.Rw

theorem LRow.at {W : World} {lo : Nat} {A : Option Addr} {c : Nat} {l : List (List UInt8)} (h : LRow W lo A c l) {k : Nat} (hk : k < l.length) : ∃ g, A = some ⟨g, 0, none⟩ ∧ lo ≤ g ∧ g < W.heap.size ∧ W.cell? ⟨g, k, none⟩ = some (.string ⟨l[k].toArray⟩) := by
  obtain ⟨g, hA, hlo⟩ := SRow.addr h (by omega)
  have := SRow.cell h sc_len hA (List.getElem?_eq_getElem hk) (r := 0) (u := .string ⟨l[k].toArray⟩) (by omega) rfl
  rw [Nat.mul_one, Nat.add_zero] at this
  exact ⟨g, hA, hlo, (SRow.bk h hA).2, this⟩
theorem LRow.below {W W' : World} {lo : Nat} {A : Option Addr} {c : Nat} {l : List (List UInt8)} (h : LRow W lo A c l) (hb : Below W.heap.size W W') : LRow W' lo A c l := SRow.below h hb
set_option maxHeartbeats 4000000 in
theorem rvname_any (s : ByteArray) (w : World) (hm : s.size ≤ 1000000) :
    Calls Try.prog 14 #[.string s] w fun e w' => e = .returned (.bool (nameB s.data.toList)) ∧ Below w.heap.size w w' := by
  have hll : s.data.toList.length = s.size := rfl
  by_cases h60 : s.size ≤ 60
  · have HN : Hid (nameB s.data.toList = (labelsOf s.data.toList).all labB) := Lib.hid (by unfold nameB; rw [decide_eq_true (by omega), Bool.true_and])
    have HLe : Hid (∀ a ∈ labelsOf s.data.toList, a.length ≤ 60) := Lib.hid fun a h => Nat.le_trans (labels_le _ a h) (by omega)
    have hnn := labelsOf_len s.data.toList
    have HLn : Hid ((labelsOf s.data.toList).length ≤ 61) := Lib.hid (by omega)
    have HL := Lib.hid fun W => rlabels_any s W hm
    have HV := Lib.hid fun (a : List UInt8) W (h : a.length ≤ 1000000) => rlab_any ⟨a.toArray⟩ W h
    clear hnn
    generalize nameB s.data.toList = nb at *
    generalize labelsOf s.data.toList = L at *
    have hq : decide ((60 : Int) < (s.size : Int)) = false := by simp; omega
    go_enter Try.func14, Try.ntmps14
    go_wp2_with fail
    refine (HL.out _).mono ?_
    rintro e w1 ⟨⟨A, c, rfl, hrow⟩, hb⟩
    have HRow := Lib.hid hrow; clear hrow
    go_wp2_with fail
    go_loopw [4] (fun u wr => ∃ k : Nat, k ≤ L.length ∧ u = .int .i64 (k : Int) ∧ wr = w1 ∧ ∀ j (h : j < L.length), j < k → labB (L[j]'h) = true) (fun u wr => L.length - (intOf u).toNat)
    case atStart => exact ⟨0, by omega, rfl, rfl, fun j h q => by omega⟩
    case round =>
      obtain ⟨k, hk, rfl, rfl, hin⟩ := hrel
      have HIn := Lib.hid hin; clear hin
      have hL61 := HLn.out
      by_cases hlt : k < L.length
      · have hkl : decide ((k : Int) < (L.length : Int)) = true := by simp; omega
        have hk1 : (k : Int) < (L.length : Int) := by omega
        have hk0 : (0 : Int) ≤ (k : Int) := by omega
        obtain ⟨g, rfl, hlo, hgl, c0⟩ := HRow.out.at hlt
        have HVk := Lib.hid fun W => HV.out L[k] W (by have := HLe.out L[k] (List.getElem_mem hlt); omega)
        have HC : Hid (labB L[k] = true → ∀ j (h : j < L.length), j < k + 1 → labB (L[j]'h) = true) := Lib.hid fun hi j h q => by
          by_cases e : j = k
          · subst e; exact hi
          · exact HIn.out j h (by omega)
        have HS : Hid (labB L[k] = false → false = nb) := Lib.hid fun hi => by
          rw [HN.out, List.all_eq_false.2 ⟨L[k], List.getElem_mem hlt, by rw [hi]; simp⟩]
        have hlab : labB (⟨L[k].toArray⟩ : ByteArray).data.toList = labB L[k] := rfl
        rw [hlab] at HVk
        generalize L[k] = a at *
        cases hla : labB a with
        | true =>
          rw [hla] at HVk
          go_wp2_with fail
          refine (HVk.out _).mono ?_
          rintro e w2 ⟨rfl, rfl⟩
          go_wp2_with fail
          exact ⟨⟨k + 1, by omega, by go_num, trivial, HC.out hla⟩, by simp [Go.RowKit.intOf]; omega⟩
        | false =>
          rw [hla] at HVk
          go_wp2_with fail
          refine (HVk.out _).mono ?_
          rintro e w2 ⟨rfl, rfl⟩
          go_wp2_with fail
          go_ret
          exact ⟨ret_bool (HS.out hla), hb⟩
      · have hkl : decide ((k : Int) < (L.length : Int)) = false := by simp; omega
        go_wp2_with fail
        go_ret
        exact ⟨ret_bool (by rw [HN.out]; exact (List.all_eq_true.2 fun y hy => by
          obtain ⟨m, hm', rfl⟩ := List.getElem_of_mem hy
          exact HIn.out m hm' (by omega)).symm), hb⟩
  · have HN : Hid (nameB s.data.toList = false) := Lib.hid (by unfold nameB; rw [decide_eq_false (by omega), Bool.false_and])
    have hq : decide ((60 : Int) < (s.size : Int)) = true := by simp; omega
    rw [HN.out]
    go_enter Try.func14, Try.ntmps14
    go_wp2_with fail
    go_ret
    exact ⟨rfl, Below.refl _ _⟩
end Go.Proofs.Ythdggmigjddneaa.Dn
