/-
  The walk of the law DNSNameLabels.
-/
import Derived.Test.YthdggmigjddneaaDnLaw0
namespace Go.Proofs.Ythdggmigjddneaa.Dn
open Go.RowKit Go.Proofs.Ythdggmigjddneaa.Wire Go.Proofs.Ythdggmigjddneaa.Rw

set_option maxRecDepth 100000 in
set_option maxHeartbeats 8000000 in
theorem walk34 (s t : ByteArray) (n m : Int) (C D : List UInt8) (a b : ByteArray) (v2 va vb vl : Bool) (w : World) (hs : s.size ≤ maxLen) (ht : t.size ≤ maxLen) (ha : s.extract 0 (min (s.size : Int) 40).toNat = a) (hb : t.extract 0 (min (t.size : Int) 40).toNat = b) (sa : a.size ≤ 40) (sb : b.size ≤ 40) (sc : C.length ≤ 60) (sd : D.length ≤ 60)
    (h2 : v2 = (va && vb && decide (a.size + 1 + b.size ≤ 60))) (hl : vl = decide (C.length + 1 + D.length ≤ 60))
    (HNn : Hid (∀ W, Calls Try.prog 9 #[.int .i64 n] W fun e w' => e = .returned (.string ⟨C.toArray⟩) ∧ Below W.heap.size W w')) (HNm : Hid (∀ W, Calls Try.prog 9 #[.int .i64 m] W fun e w' => e = .returned (.string ⟨D.toArray⟩) ∧ Below W.heap.size W w'))
    (HV2 : Hid (∀ W : World, Calls Try.prog 13 #[.string (a ++ ⟨#[46]⟩ ++ b)] W fun e w' => e = .returned (.bool v2) ∧ Below W.heap.size W w')) (HVA : Hid (∀ W : World, Calls Try.prog 13 #[.string a] W fun e w' => e = .returned (.bool va) ∧ Below W.heap.size W w')) (HVB : Hid (∀ W : World, Calls Try.prog 13 #[.string b] W fun e w' => e = .returned (.bool vb) ∧ Below W.heap.size W w')) (HC : Hid (∀ W : World, Calls Try.prog 13 #[.string ⟨C.toArray⟩] W fun e w' => e = .returned (.bool true) ∧ Below W.heap.size W w')) (HL : Hid (∀ W : World, Calls Try.prog 13 #[.string (⟨C.toArray⟩ ++ ⟨#[46]⟩ ++ ⟨D.toArray⟩)] W fun e w' => e = .returned (.bool vl) ∧ Below W.heap.size W w'))
    (H1 : Hid (∀ W : World, Calls Try.prog 13 #[.string (⟨#[46]⟩ ++ ⟨C.toArray⟩)] W fun e w' => e = .returned (.bool false) ∧ Below W.heap.size W w')) (H2 : Hid (∀ W : World, Calls Try.prog 13 #[.string (⟨C.toArray⟩ ++ ⟨#[46]⟩)] W fun e w' => e = .returned (.bool false) ∧ Below W.heap.size W w')) (H3 : Hid (∀ W : World, Calls Try.prog 13 #[.string (⟨#[45]⟩ ++ ⟨C.toArray⟩)] W fun e w' => e = .returned (.bool false) ∧ Below W.heap.size W w')) (H4 : Hid (∀ W : World, Calls Try.prog 13 #[.string (⟨C.toArray⟩ ++ ⟨#[45]⟩)] W fun e w' => e = .returned (.bool false) ∧ Below W.heap.size W w')) :
    Calls Try.prog 6 #[.string s, .string t, .int .i64 n, .int .i64 m] w fun e w' => e = .returned (.bool true) ∧ Below w.heap.size w w' := by
  subst h2 hl
  unfold maxLen at hs ht
  have hs0 : (0 : Int) ≤ min (s.size : Int) 40 := by omega
  have hs1 : min (s.size : Int) 40 ≤ (s.size : Int) := by omega
  have ht0 : (0 : Int) ≤ min (t.size : Int) 40 := by omega
  have ht1 : min (t.size : Int) 40 ≤ (t.size : Int) := by omega
  have z1 : ¬ 9223372036854775807 < a.size + 1 := by omega
  have z2 : ¬ 9223372036854775807 < a.size + 1 + b.size := by omega
  have z3 : ¬ 9223372036854775807 < C.length + 1 := by omega
  have z4 : ¬ 9223372036854775807 < C.length + 1 + D.length := by omega
  have z5 : ¬ 9223372036854775807 < 1 + C.length := by omega
  have c1 : ¬ (a.size : Int) + 1 + (b.size : Int) ≤ 60 ∨ (a.size : Int) + 1 + (b.size : Int) ≤ 60 := by omega
  have c2 : ¬ (C.length : Int) + 1 + (D.length : Int) ≤ 60 ∨ (C.length : Int) + 1 + (D.length : Int) ≤ 60 := by omega
  have e1 : decide (a.size + 1 + b.size ≤ 60) = decide ((a.size : Int) + 1 + (b.size : Int) ≤ 60) := by simp; omega
  have e2 : decide (C.length + 1 + D.length ≤ 60) = decide ((C.length : Int) + 1 + (D.length : Int) ≤ 60) := by simp; omega
  rw [e1] at HV2; rw [e2] at HL
  clear e1 e2
  cases va with
  | false =>
    rw [Bool.false_and, Bool.false_and] at HV2
    clear c1
    rcases c2 with c2 | c2
    · rw [decide_eq_false c2] at HL
      have HB := Below.refl w.heap.size w
      go_enter Try.func6, Try.ntmps6
      go_wp2_with fail
      refine (examples_any _).mono ?_
      rintro e w1 ⟨rfl, hb⟩
      have HB' := below_call HB hb; clear HB hb; have HB := HB'; clear HB'; have hz1 := HB.size
      go_wp2_with fail
      clear ha hb hs0 hs1 ht0 ht1 hs ht
      refine (HNn.out _).mono ?_
      rintro e w2 ⟨rfl, hb⟩
      have HB' := below_call HB hb; clear HB hb; have HB := HB'; clear HB'; have hz2 := HB.size
      go_wp2_with fail
      refine (HNm.out _).mono ?_
      rintro e w3 ⟨rfl, hb⟩
      have HB' := below_call HB hb; clear HB hb; have HB := HB'; clear HB'; have hz3 := HB.size
      go_wp2_with fail
      refine (HV2.out _).mono ?_
      rintro e w4 ⟨rfl, hb⟩
      have HB' := below_call HB hb; clear HB hb; have HB := HB'; clear HB'; have hz4 := HB.size
      go_wp2_with fail
      refine (HVA.out _).mono ?_
      rintro e w5 ⟨rfl, hb⟩
      have HB' := below_call HB hb; clear HB hb; have HB := HB'; clear HB'; have hz5 := HB.size
      go_wp2_with fail
      refine (HC.out _).mono ?_
      rintro e w6 ⟨rfl, hb⟩
      have HB' := below_call HB hb; clear HB hb; have HB := HB'; clear HB'; have hz6 := HB.size
      go_wp2_with fail
      refine (HL.out _).mono ?_
      rintro e w7 ⟨rfl, hb⟩
      have HB' := below_call HB hb; clear HB hb; have HB := HB'; clear HB'; have hz7 := HB.size
      go_wp2_with fail
      refine (H1.out _).mono ?_
      rintro e w8 ⟨rfl, hb⟩
      have HB' := below_call HB hb; clear HB hb; have HB := HB'; clear HB'; have hz8 := HB.size
      go_wp2_with fail
      refine (H2.out _).mono ?_
      rintro e w9 ⟨rfl, hb⟩
      have HB' := below_call HB hb; clear HB hb; have HB := HB'; clear HB'; have hz9 := HB.size
      go_wp2_with fail
      refine (H3.out _).mono ?_
      rintro e w10 ⟨rfl, hb⟩
      have HB' := below_call HB hb; clear HB hb; have HB := HB'; clear HB'; have hz10 := HB.size
      go_wp2_with fail
      refine (H4.out _).mono ?_
      rintro e w11 ⟨rfl, hb⟩
      have HB' := below_call HB hb; clear HB hb; have HB := HB'; clear HB'; have hz11 := HB.size
      go_wp2_with fail
      go_ret
      first | exact ⟨rfl, HB⟩ | exact ⟨by show Ending.returned (.bool (!decide _)) = _; rw [decide_eq_false (p := (C.length : Int) + 1 + (D.length : Int) ≤ 60) (by omega)]; rfl, HB⟩
    · rw [decide_eq_true c2] at HL
      have HB := Below.refl w.heap.size w
      go_enter Try.func6, Try.ntmps6
      go_wp2_with fail
      refine (examples_any _).mono ?_
      rintro e w1 ⟨rfl, hb⟩
      have HB' := below_call HB hb; clear HB hb; have HB := HB'; clear HB'; have hz1 := HB.size
      go_wp2_with fail
      clear ha hb hs0 hs1 ht0 ht1 hs ht
      refine (HNn.out _).mono ?_
      rintro e w2 ⟨rfl, hb⟩
      have HB' := below_call HB hb; clear HB hb; have HB := HB'; clear HB'; have hz2 := HB.size
      go_wp2_with fail
      refine (HNm.out _).mono ?_
      rintro e w3 ⟨rfl, hb⟩
      have HB' := below_call HB hb; clear HB hb; have HB := HB'; clear HB'; have hz3 := HB.size
      go_wp2_with fail
      refine (HV2.out _).mono ?_
      rintro e w4 ⟨rfl, hb⟩
      have HB' := below_call HB hb; clear HB hb; have HB := HB'; clear HB'; have hz4 := HB.size
      go_wp2_with fail
      refine (HVA.out _).mono ?_
      rintro e w5 ⟨rfl, hb⟩
      have HB' := below_call HB hb; clear HB hb; have HB := HB'; clear HB'; have hz5 := HB.size
      go_wp2_with fail
      refine (HC.out _).mono ?_
      rintro e w6 ⟨rfl, hb⟩
      have HB' := below_call HB hb; clear HB hb; have HB := HB'; clear HB'; have hz6 := HB.size
      go_wp2_with fail
      refine (HL.out _).mono ?_
      rintro e w7 ⟨rfl, hb⟩
      have HB' := below_call HB hb; clear HB hb; have HB := HB'; clear HB'; have hz7 := HB.size
      go_wp2_with fail
      refine (H1.out _).mono ?_
      rintro e w8 ⟨rfl, hb⟩
      have HB' := below_call HB hb; clear HB hb; have HB := HB'; clear HB'; have hz8 := HB.size
      go_wp2_with fail
      refine (H2.out _).mono ?_
      rintro e w9 ⟨rfl, hb⟩
      have HB' := below_call HB hb; clear HB hb; have HB := HB'; clear HB'; have hz9 := HB.size
      go_wp2_with fail
      refine (H3.out _).mono ?_
      rintro e w10 ⟨rfl, hb⟩
      have HB' := below_call HB hb; clear HB hb; have HB := HB'; clear HB'; have hz10 := HB.size
      go_wp2_with fail
      refine (H4.out _).mono ?_
      rintro e w11 ⟨rfl, hb⟩
      have HB' := below_call HB hb; clear HB hb; have HB := HB'; clear HB'; have hz11 := HB.size
      go_wp2_with fail
      go_ret
      first | exact ⟨rfl, HB⟩ | exact ⟨by show Ending.returned (.bool (!decide _)) = _; rw [decide_eq_false (p := (C.length : Int) + 1 + (D.length : Int) ≤ 60) (by omega)]; rfl, HB⟩
  | true =>
    rw [Bool.true_and] at HV2
    cases vb with
    | false =>
      rw [Bool.false_and] at HV2
      clear c1
      rcases c2 with c2 | c2
      · rw [decide_eq_false c2] at HL
        have HB := Below.refl w.heap.size w
        go_enter Try.func6, Try.ntmps6
        go_wp2_with fail
        refine (examples_any _).mono ?_
        rintro e w1 ⟨rfl, hb⟩
        have HB' := below_call HB hb; clear HB hb; have HB := HB'; clear HB'; have hz1 := HB.size
        go_wp2_with fail
        clear ha hb hs0 hs1 ht0 ht1 hs ht
        refine (HNn.out _).mono ?_
        rintro e w2 ⟨rfl, hb⟩
        have HB' := below_call HB hb; clear HB hb; have HB := HB'; clear HB'; have hz2 := HB.size
        go_wp2_with fail
        refine (HNm.out _).mono ?_
        rintro e w3 ⟨rfl, hb⟩
        have HB' := below_call HB hb; clear HB hb; have HB := HB'; clear HB'; have hz3 := HB.size
        go_wp2_with fail
        refine (HV2.out _).mono ?_
        rintro e w4 ⟨rfl, hb⟩
        have HB' := below_call HB hb; clear HB hb; have HB := HB'; clear HB'; have hz4 := HB.size
        go_wp2_with fail
        refine (HVA.out _).mono ?_
        rintro e w5 ⟨rfl, hb⟩
        have HB' := below_call HB hb; clear HB hb; have HB := HB'; clear HB'; have hz5 := HB.size
        go_wp2_with fail
        refine (HVB.out _).mono ?_
        rintro e w6 ⟨rfl, hb⟩
        have HB' := below_call HB hb; clear HB hb; have HB := HB'; clear HB'; have hz6 := HB.size
        go_wp2_with fail
        refine (HC.out _).mono ?_
        rintro e w7 ⟨rfl, hb⟩
        have HB' := below_call HB hb; clear HB hb; have HB := HB'; clear HB'; have hz7 := HB.size
        go_wp2_with fail
        refine (HL.out _).mono ?_
        rintro e w8 ⟨rfl, hb⟩
        have HB' := below_call HB hb; clear HB hb; have HB := HB'; clear HB'; have hz8 := HB.size
        go_wp2_with fail
        refine (H1.out _).mono ?_
        rintro e w9 ⟨rfl, hb⟩
        have HB' := below_call HB hb; clear HB hb; have HB := HB'; clear HB'; have hz9 := HB.size
        go_wp2_with fail
        refine (H2.out _).mono ?_
        rintro e w10 ⟨rfl, hb⟩
        have HB' := below_call HB hb; clear HB hb; have HB := HB'; clear HB'; have hz10 := HB.size
        go_wp2_with fail
        refine (H3.out _).mono ?_
        rintro e w11 ⟨rfl, hb⟩
        have HB' := below_call HB hb; clear HB hb; have HB := HB'; clear HB'; have hz11 := HB.size
        go_wp2_with fail
        refine (H4.out _).mono ?_
        rintro e w12 ⟨rfl, hb⟩
        have HB' := below_call HB hb; clear HB hb; have HB := HB'; clear HB'; have hz12 := HB.size
        go_wp2_with fail
        go_ret
        first | exact ⟨rfl, HB⟩ | exact ⟨by show Ending.returned (.bool (!decide _)) = _; rw [decide_eq_false (p := (C.length : Int) + 1 + (D.length : Int) ≤ 60) (by omega)]; rfl, HB⟩
      · rw [decide_eq_true c2] at HL
        have HB := Below.refl w.heap.size w
        go_enter Try.func6, Try.ntmps6
        go_wp2_with fail
        refine (examples_any _).mono ?_
        rintro e w1 ⟨rfl, hb⟩
        have HB' := below_call HB hb; clear HB hb; have HB := HB'; clear HB'; have hz1 := HB.size
        go_wp2_with fail
        clear ha hb hs0 hs1 ht0 ht1 hs ht
        refine (HNn.out _).mono ?_
        rintro e w2 ⟨rfl, hb⟩
        have HB' := below_call HB hb; clear HB hb; have HB := HB'; clear HB'; have hz2 := HB.size
        go_wp2_with fail
        refine (HNm.out _).mono ?_
        rintro e w3 ⟨rfl, hb⟩
        have HB' := below_call HB hb; clear HB hb; have HB := HB'; clear HB'; have hz3 := HB.size
        go_wp2_with fail
        refine (HV2.out _).mono ?_
        rintro e w4 ⟨rfl, hb⟩
        have HB' := below_call HB hb; clear HB hb; have HB := HB'; clear HB'; have hz4 := HB.size
        go_wp2_with fail
        refine (HVA.out _).mono ?_
        rintro e w5 ⟨rfl, hb⟩
        have HB' := below_call HB hb; clear HB hb; have HB := HB'; clear HB'; have hz5 := HB.size
        go_wp2_with fail
        refine (HVB.out _).mono ?_
        rintro e w6 ⟨rfl, hb⟩
        have HB' := below_call HB hb; clear HB hb; have HB := HB'; clear HB'; have hz6 := HB.size
        go_wp2_with fail
        refine (HC.out _).mono ?_
        rintro e w7 ⟨rfl, hb⟩
        have HB' := below_call HB hb; clear HB hb; have HB := HB'; clear HB'; have hz7 := HB.size
        go_wp2_with fail
        refine (HL.out _).mono ?_
        rintro e w8 ⟨rfl, hb⟩
        have HB' := below_call HB hb; clear HB hb; have HB := HB'; clear HB'; have hz8 := HB.size
        go_wp2_with fail
        refine (H1.out _).mono ?_
        rintro e w9 ⟨rfl, hb⟩
        have HB' := below_call HB hb; clear HB hb; have HB := HB'; clear HB'; have hz9 := HB.size
        go_wp2_with fail
        refine (H2.out _).mono ?_
        rintro e w10 ⟨rfl, hb⟩
        have HB' := below_call HB hb; clear HB hb; have HB := HB'; clear HB'; have hz10 := HB.size
        go_wp2_with fail
        refine (H3.out _).mono ?_
        rintro e w11 ⟨rfl, hb⟩
        have HB' := below_call HB hb; clear HB hb; have HB := HB'; clear HB'; have hz11 := HB.size
        go_wp2_with fail
        refine (H4.out _).mono ?_
        rintro e w12 ⟨rfl, hb⟩
        have HB' := below_call HB hb; clear HB hb; have HB := HB'; clear HB'; have hz12 := HB.size
        go_wp2_with fail
        go_ret
        first | exact ⟨rfl, HB⟩ | exact ⟨by show Ending.returned (.bool (!decide _)) = _; rw [decide_eq_false (p := (C.length : Int) + 1 + (D.length : Int) ≤ 60) (by omega)]; rfl, HB⟩
    | true =>
      rw [Bool.true_and] at HV2
      rcases c1 with c1 | c1
      · rw [decide_eq_false c1] at HV2
        rcases c2 with c2 | c2
        · rw [decide_eq_false c2] at HL
          have HB := Below.refl w.heap.size w
          go_enter Try.func6, Try.ntmps6
          go_wp2_with fail
          refine (examples_any _).mono ?_
          rintro e w1 ⟨rfl, hb⟩
          have HB' := below_call HB hb; clear HB hb; have HB := HB'; clear HB'; have hz1 := HB.size
          go_wp2_with fail
          clear ha hb hs0 hs1 ht0 ht1 hs ht
          refine (HNn.out _).mono ?_
          rintro e w2 ⟨rfl, hb⟩
          have HB' := below_call HB hb; clear HB hb; have HB := HB'; clear HB'; have hz2 := HB.size
          go_wp2_with fail
          refine (HNm.out _).mono ?_
          rintro e w3 ⟨rfl, hb⟩
          have HB' := below_call HB hb; clear HB hb; have HB := HB'; clear HB'; have hz3 := HB.size
          go_wp2_with fail
          refine (HV2.out _).mono ?_
          rintro e w4 ⟨rfl, hb⟩
          have HB' := below_call HB hb; clear HB hb; have HB := HB'; clear HB'; have hz4 := HB.size
          go_wp2_with fail
          refine (HVA.out _).mono ?_
          rintro e w5 ⟨rfl, hb⟩
          have HB' := below_call HB hb; clear HB hb; have HB := HB'; clear HB'; have hz5 := HB.size
          go_wp2_with fail
          refine (HVB.out _).mono ?_
          rintro e w6 ⟨rfl, hb⟩
          have HB' := below_call HB hb; clear HB hb; have HB := HB'; clear HB'; have hz6 := HB.size
          go_wp2_with fail
          refine (HC.out _).mono ?_
          rintro e w7 ⟨rfl, hb⟩
          have HB' := below_call HB hb; clear HB hb; have HB := HB'; clear HB'; have hz7 := HB.size
          go_wp2_with fail
          refine (HL.out _).mono ?_
          rintro e w8 ⟨rfl, hb⟩
          have HB' := below_call HB hb; clear HB hb; have HB := HB'; clear HB'; have hz8 := HB.size
          go_wp2_with fail
          refine (H1.out _).mono ?_
          rintro e w9 ⟨rfl, hb⟩
          have HB' := below_call HB hb; clear HB hb; have HB := HB'; clear HB'; have hz9 := HB.size
          go_wp2_with fail
          refine (H2.out _).mono ?_
          rintro e w10 ⟨rfl, hb⟩
          have HB' := below_call HB hb; clear HB hb; have HB := HB'; clear HB'; have hz10 := HB.size
          go_wp2_with fail
          refine (H3.out _).mono ?_
          rintro e w11 ⟨rfl, hb⟩
          have HB' := below_call HB hb; clear HB hb; have HB := HB'; clear HB'; have hz11 := HB.size
          go_wp2_with fail
          refine (H4.out _).mono ?_
          rintro e w12 ⟨rfl, hb⟩
          have HB' := below_call HB hb; clear HB hb; have HB := HB'; clear HB'; have hz12 := HB.size
          go_wp2_with fail
          go_ret
          first | exact ⟨rfl, HB⟩ | exact ⟨by show Ending.returned (.bool (!decide _)) = _; rw [decide_eq_false (p := (C.length : Int) + 1 + (D.length : Int) ≤ 60) (by omega)]; rfl, HB⟩
        · rw [decide_eq_true c2] at HL
          have HB := Below.refl w.heap.size w
          go_enter Try.func6, Try.ntmps6
          go_wp2_with fail
          refine (examples_any _).mono ?_
          rintro e w1 ⟨rfl, hb⟩
          have HB' := below_call HB hb; clear HB hb; have HB := HB'; clear HB'; have hz1 := HB.size
          go_wp2_with fail
          clear ha hb hs0 hs1 ht0 ht1 hs ht
          refine (HNn.out _).mono ?_
          rintro e w2 ⟨rfl, hb⟩
          have HB' := below_call HB hb; clear HB hb; have HB := HB'; clear HB'; have hz2 := HB.size
          go_wp2_with fail
          refine (HNm.out _).mono ?_
          rintro e w3 ⟨rfl, hb⟩
          have HB' := below_call HB hb; clear HB hb; have HB := HB'; clear HB'; have hz3 := HB.size
          go_wp2_with fail
          refine (HV2.out _).mono ?_
          rintro e w4 ⟨rfl, hb⟩
          have HB' := below_call HB hb; clear HB hb; have HB := HB'; clear HB'; have hz4 := HB.size
          go_wp2_with fail
          refine (HVA.out _).mono ?_
          rintro e w5 ⟨rfl, hb⟩
          have HB' := below_call HB hb; clear HB hb; have HB := HB'; clear HB'; have hz5 := HB.size
          go_wp2_with fail
          refine (HVB.out _).mono ?_
          rintro e w6 ⟨rfl, hb⟩
          have HB' := below_call HB hb; clear HB hb; have HB := HB'; clear HB'; have hz6 := HB.size
          go_wp2_with fail
          refine (HC.out _).mono ?_
          rintro e w7 ⟨rfl, hb⟩
          have HB' := below_call HB hb; clear HB hb; have HB := HB'; clear HB'; have hz7 := HB.size
          go_wp2_with fail
          refine (HL.out _).mono ?_
          rintro e w8 ⟨rfl, hb⟩
          have HB' := below_call HB hb; clear HB hb; have HB := HB'; clear HB'; have hz8 := HB.size
          go_wp2_with fail
          refine (H1.out _).mono ?_
          rintro e w9 ⟨rfl, hb⟩
          have HB' := below_call HB hb; clear HB hb; have HB := HB'; clear HB'; have hz9 := HB.size
          go_wp2_with fail
          refine (H2.out _).mono ?_
          rintro e w10 ⟨rfl, hb⟩
          have HB' := below_call HB hb; clear HB hb; have HB := HB'; clear HB'; have hz10 := HB.size
          go_wp2_with fail
          refine (H3.out _).mono ?_
          rintro e w11 ⟨rfl, hb⟩
          have HB' := below_call HB hb; clear HB hb; have HB := HB'; clear HB'; have hz11 := HB.size
          go_wp2_with fail
          refine (H4.out _).mono ?_
          rintro e w12 ⟨rfl, hb⟩
          have HB' := below_call HB hb; clear HB hb; have HB := HB'; clear HB'; have hz12 := HB.size
          go_wp2_with fail
          go_ret
          first | exact ⟨rfl, HB⟩ | exact ⟨by show Ending.returned (.bool (!decide _)) = _; rw [decide_eq_false (p := (C.length : Int) + 1 + (D.length : Int) ≤ 60) (by omega)]; rfl, HB⟩
      · rw [decide_eq_true c1] at HV2
        rcases c2 with c2 | c2
        · rw [decide_eq_false c2] at HL
          have HB := Below.refl w.heap.size w
          go_enter Try.func6, Try.ntmps6
          go_wp2_with fail
          refine (examples_any _).mono ?_
          rintro e w1 ⟨rfl, hb⟩
          have HB' := below_call HB hb; clear HB hb; have HB := HB'; clear HB'; have hz1 := HB.size
          go_wp2_with fail
          clear ha hb hs0 hs1 ht0 ht1 hs ht
          refine (HNn.out _).mono ?_
          rintro e w2 ⟨rfl, hb⟩
          have HB' := below_call HB hb; clear HB hb; have HB := HB'; clear HB'; have hz2 := HB.size
          go_wp2_with fail
          refine (HNm.out _).mono ?_
          rintro e w3 ⟨rfl, hb⟩
          have HB' := below_call HB hb; clear HB hb; have HB := HB'; clear HB'; have hz3 := HB.size
          go_wp2_with fail
          refine (HV2.out _).mono ?_
          rintro e w4 ⟨rfl, hb⟩
          have HB' := below_call HB hb; clear HB hb; have HB := HB'; clear HB'; have hz4 := HB.size
          go_wp2_with fail
          refine (HVA.out _).mono ?_
          rintro e w5 ⟨rfl, hb⟩
          have HB' := below_call HB hb; clear HB hb; have HB := HB'; clear HB'; have hz5 := HB.size
          go_wp2_with fail
          refine (HVB.out _).mono ?_
          rintro e w6 ⟨rfl, hb⟩
          have HB' := below_call HB hb; clear HB hb; have HB := HB'; clear HB'; have hz6 := HB.size
          go_wp2_with fail
          refine (HC.out _).mono ?_
          rintro e w7 ⟨rfl, hb⟩
          have HB' := below_call HB hb; clear HB hb; have HB := HB'; clear HB'; have hz7 := HB.size
          go_wp2_with fail
          refine (HL.out _).mono ?_
          rintro e w8 ⟨rfl, hb⟩
          have HB' := below_call HB hb; clear HB hb; have HB := HB'; clear HB'; have hz8 := HB.size
          go_wp2_with fail
          refine (H1.out _).mono ?_
          rintro e w9 ⟨rfl, hb⟩
          have HB' := below_call HB hb; clear HB hb; have HB := HB'; clear HB'; have hz9 := HB.size
          go_wp2_with fail
          refine (H2.out _).mono ?_
          rintro e w10 ⟨rfl, hb⟩
          have HB' := below_call HB hb; clear HB hb; have HB := HB'; clear HB'; have hz10 := HB.size
          go_wp2_with fail
          refine (H3.out _).mono ?_
          rintro e w11 ⟨rfl, hb⟩
          have HB' := below_call HB hb; clear HB hb; have HB := HB'; clear HB'; have hz11 := HB.size
          go_wp2_with fail
          refine (H4.out _).mono ?_
          rintro e w12 ⟨rfl, hb⟩
          have HB' := below_call HB hb; clear HB hb; have HB := HB'; clear HB'; have hz12 := HB.size
          go_wp2_with fail
          go_ret
          first | exact ⟨rfl, HB⟩ | exact ⟨by show Ending.returned (.bool (!decide _)) = _; rw [decide_eq_false (p := (C.length : Int) + 1 + (D.length : Int) ≤ 60) (by omega)]; rfl, HB⟩
        · rw [decide_eq_true c2] at HL
          have HB := Below.refl w.heap.size w
          go_enter Try.func6, Try.ntmps6
          go_wp2_with fail
          refine (examples_any _).mono ?_
          rintro e w1 ⟨rfl, hb⟩
          have HB' := below_call HB hb; clear HB hb; have HB := HB'; clear HB'; have hz1 := HB.size
          go_wp2_with fail
          clear ha hb hs0 hs1 ht0 ht1 hs ht
          refine (HNn.out _).mono ?_
          rintro e w2 ⟨rfl, hb⟩
          have HB' := below_call HB hb; clear HB hb; have HB := HB'; clear HB'; have hz2 := HB.size
          go_wp2_with fail
          refine (HNm.out _).mono ?_
          rintro e w3 ⟨rfl, hb⟩
          have HB' := below_call HB hb; clear HB hb; have HB := HB'; clear HB'; have hz3 := HB.size
          go_wp2_with fail
          refine (HV2.out _).mono ?_
          rintro e w4 ⟨rfl, hb⟩
          have HB' := below_call HB hb; clear HB hb; have HB := HB'; clear HB'; have hz4 := HB.size
          go_wp2_with fail
          refine (HVA.out _).mono ?_
          rintro e w5 ⟨rfl, hb⟩
          have HB' := below_call HB hb; clear HB hb; have HB := HB'; clear HB'; have hz5 := HB.size
          go_wp2_with fail
          refine (HVB.out _).mono ?_
          rintro e w6 ⟨rfl, hb⟩
          have HB' := below_call HB hb; clear HB hb; have HB := HB'; clear HB'; have hz6 := HB.size
          go_wp2_with fail
          refine (HC.out _).mono ?_
          rintro e w7 ⟨rfl, hb⟩
          have HB' := below_call HB hb; clear HB hb; have HB := HB'; clear HB'; have hz7 := HB.size
          go_wp2_with fail
          refine (HL.out _).mono ?_
          rintro e w8 ⟨rfl, hb⟩
          have HB' := below_call HB hb; clear HB hb; have HB := HB'; clear HB'; have hz8 := HB.size
          go_wp2_with fail
          refine (H1.out _).mono ?_
          rintro e w9 ⟨rfl, hb⟩
          have HB' := below_call HB hb; clear HB hb; have HB := HB'; clear HB'; have hz9 := HB.size
          go_wp2_with fail
          refine (H2.out _).mono ?_
          rintro e w10 ⟨rfl, hb⟩
          have HB' := below_call HB hb; clear HB hb; have HB := HB'; clear HB'; have hz10 := HB.size
          go_wp2_with fail
          refine (H3.out _).mono ?_
          rintro e w11 ⟨rfl, hb⟩
          have HB' := below_call HB hb; clear HB hb; have HB := HB'; clear HB'; have hz11 := HB.size
          go_wp2_with fail
          refine (H4.out _).mono ?_
          rintro e w12 ⟨rfl, hb⟩
          have HB' := below_call HB hb; clear HB hb; have HB := HB'; clear HB'; have hz12 := HB.size
          go_wp2_with fail
          go_ret
          first | exact ⟨rfl, HB⟩ | exact ⟨by show Ending.returned (.bool (!decide _)) = _; rw [decide_eq_false (p := (C.length : Int) + 1 + (D.length : Int) ≤ 60) (by omega)]; rfl, HB⟩
end Go.Proofs.Ythdggmigjddneaa.Dn
