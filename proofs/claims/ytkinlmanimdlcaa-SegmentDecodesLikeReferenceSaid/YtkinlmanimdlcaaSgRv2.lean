/-
  The contract of the reference's Valid of chapter 11: it says what makes a segment valid.
-/
import Derived.Test.YtkinlmanimdlcaaSgRv
namespace Go.Proofs.Ytkinlmanimdlcaa.Sg
open Go.RowKit Go.Proofs.Ytkinlmanimdlcaa.Wire

set_option maxRecDepth 100000 in
set_option maxHeartbeats 40000000 in
theorem rvalid_any (fp tp sq ack : Int) (syn fin rst ha : Bool) (win mss : Int) (sacks : Bool) (A : Option Addr) (n c : Nat) (bl : List (Int × Int)) (s : ByteArray) (w : World) (hn : n ≤ 9223372036854775807) (hb : Bks w A n bl) :
    Calls Try.prog 17 #[.agg #[.int .i64 fp, .int .i64 tp, .int .i64 sq, .int .i64 ack, .bool syn, .bool fin, .bool rst, .bool ha, .int .i64 win, .int .i64 mss, .bool sacks, .slice A n c, .string s]] w fun e w' => e = .returned (.bool (vldB fp tp sq ack syn fin rst ha win mss sacks bl s.size)) ∧ Below w.heap.size w w' := by
  have HB0 := Lib.hid hb; clear hb
  have HL := Lib.hid HB0.out.1
  have HB := (Below.refl w.heap.size w).alloc (Nat.le_refl _) (.cells #[.int .i64 fp, .int .i64 tp, .int .i64 sq, .int .i64 ack, .bool syn, .bool fin, .bool rst, .bool ha, .int .i64 win, .int .i64 mss, .bool sacks, .slice A n c, .string s] 24)
  have HBa := Below.refl (w.alloc (.cells #[.int .i64 fp, .int .i64 tp, .int .i64 sq, .int .i64 ack, .bool syn, .bool fin, .bool rst, .bool ha, .int .i64 win, .int .i64 mss, .bool sacks, .slice A n c, .string s] 24)).heap.size (w.alloc (.cells #[.int .i64 fp, .int .i64 tp, .int .i64 sq, .int .i64 ack, .bool syn, .bool fin, .bool rst, .bool ha, .int .i64 win, .int .i64 mss, .bool sacks, .slice A n c, .string s] 24))
  have Hx := Lib.hid (alloc_new w (.cells #[.int .i64 fp, .int .i64 tp, .int .i64 sq, .int .i64 ack, .bool syn, .bool fin, .bool rst, .bool ha, .int .i64 win, .int .i64 mss, .bool sacks, .slice A n c, .string s] 24))
  have hp1 : Hid (∀ h : Vld fp tp sq ack syn fin rst ha win mss sacks bl s.size, Prt fp ∧ Prt tp ∧ Sq sq ∧ Sq ack ∧ (ha = false → ack = 0)) := Lib.hid fun h => ⟨h.1.1, h.1.2.1, h.1.2.2.1, h.1.2.2.2.1, h.1.2.2.2.2.1⟩
  have no : ∀ (_ : ¬ Vld fp tp sq ack syn fin rst ha win mss sacks bl s.size), vldB fp tp sq ack syn fin rst ha win mss sacks bl s.size = false := fun h => decide_eq_false h
  have NO := Lib.hid no; clear no
  generalize hvv : vldB fp tp sq ack syn fin rst ha win mss sacks bl s.size = vv at *
  have Hvv := Lib.hid hvv; clear hvv
  have qx4 : (w.alloc (.cells #[.int .i64 fp, .int .i64 tp, .int .i64 sq, .int .i64 ack, .bool syn, .bool fin, .bool rst, .bool ha, .int .i64 win, .int .i64 mss, .bool sacks, .slice A n c, .string s] 24)).cell? ⟨w.heap.size, 4, none⟩ = some (.bool syn) := (cell_of_block (alloc_new w _) rfl).1
  have qx5 : (w.alloc (.cells #[.int .i64 fp, .int .i64 tp, .int .i64 sq, .int .i64 ack, .bool syn, .bool fin, .bool rst, .bool ha, .int .i64 win, .int .i64 mss, .bool sacks, .slice A n c, .string s] 24)).cell? ⟨w.heap.size, 5, none⟩ = some (.bool fin) := (cell_of_block (alloc_new w _) rfl).1
  have qx6 : (w.alloc (.cells #[.int .i64 fp, .int .i64 tp, .int .i64 sq, .int .i64 ack, .bool syn, .bool fin, .bool rst, .bool ha, .int .i64 win, .int .i64 mss, .bool sacks, .slice A n c, .string s] 24)).cell? ⟨w.heap.size, 6, none⟩ = some (.bool rst) := (cell_of_block (alloc_new w _) rfl).1
  have qx8 : (w.alloc (.cells #[.int .i64 fp, .int .i64 tp, .int .i64 sq, .int .i64 ack, .bool syn, .bool fin, .bool rst, .bool ha, .int .i64 win, .int .i64 mss, .bool sacks, .slice A n c, .string s] 24)).cell? ⟨w.heap.size, 8, none⟩ = some (.int .i64 win) := (cell_of_block (alloc_new w _) rfl).1
  cases ha
  all_goals
    go_enter Try.func17, Try.ntmps17
    go_wp2_with (first | (go_at_call 38; refine (rport_any _ _).mono ?_; rintro e w' ⟨rfl, rfl⟩) | (go_at_call 39; refine (rseq_any _ _).mono ?_; rintro e w' ⟨rfl, rfl⟩))
  all_goals (try (go_ret; refine ⟨ret_bool (NO.out fun h => ?_).symm, HB⟩; obtain ⟨h1, h2, h3, h4, h5⟩ := hp1.out h; first | exact absurd h1 (by assumption) | exact absurd h2 (by assumption) | exact absurd h3 (by assumption) | exact absurd h4 (by assumption) | exact absurd (h5 trivial) (bne_iff_ne.1 (show (ack != 0) = true by assumption))))
  all_goals
    have hP : Hid (Prt fp ∧ Prt tp ∧ Sq sq ∧ Sq ack) := Lib.hid ⟨by assumption, by assumption, by assumption, by assumption⟩
  all_goals
    cases syn <;> cases fin <;> cases rst
  all_goals
    by_cases hw0 : win < 0
    rotate_left
    by_cases hw1 : 65535 < win
  all_goals
    (try have dw0 : decide (win < 0) = true := by simp; omega)
    (try have dw0 : decide (win < 0) = false := by simp; omega)
    (try have dw1 : decide (65535 < win) = true := by simp; omega)
    (try have dw1 : decide (65535 < win) = false := by simp; omega)
    go_quiet ((go_at_call 40; exact Calls.quiet_of_same (rtruth_any _ _)))
  all_goals
    first
    | (go_wp2_with fail
       go_ret
       refine ⟨ret_bool (NO.out fun h => ?_).symm, below_drewN HB _⟩
       obtain ⟨⟨-, -, -, -, -, v1, v2⟩, ⟨f1, f2, f3, f4⟩, -, -⟩ := h
       first
         | omega
         | (exact absurd (f1 trivial).1 (by decide))
         | (exact absurd (f1 rfl).1 (by decide))
         | (exact absurd (f1 rfl).2 (by decide))
         | (exact absurd (f2 rfl) (by decide))
         | (have f5 := (f3 rfl).1; omega)
         | (exact absurd (f3 rfl).2 (by decide))
         | (simp at f1; done)
         | (simp at f2; done)
         | (simp at f3; done)
         | (simp at f3; omega)
         | (simp_all; done))
    | skip
  all_goals
    cases sacks
  all_goals
    by_cases hm : mss = 0
    rotate_left
    · have dm0 : (mss == 0) = false := beq_eq_false_iff_ne.2 hm
      have dm1 : (mss != 0) = true := bne_iff_ne.2 hm
      have HM := Lib.hid hm
      clear hm
      go_wp2_with fail
      all_goals
        first
        | (go_ret
           refine ⟨ret_bool (NO.out fun h => ?_).symm, below_drewN HB _⟩
           obtain ⟨-, ⟨f1, f2, f3, f4⟩, -, -⟩ := h
           have HM1 := HM.out
           first
             | omega
             | (have f5 := (f3 rfl).1; omega)
             | (exact absurd (f3 rfl).2 (by decide)))
        | skip
      all_goals
        refine (rblocks_any A n c bl _ hn (HB0.out.below (below_drewN HB _))).mono ?_
        rintro e w1 ⟨⟨b, hbb, rfl⟩, hb⟩
        have Hx1 := Lib.hid (bblock (below_call (below_drewN HBa _) hb) Hx.out)
        have HB1 := below_call (below_drewN HB _) hb
        clear hb
        cases b
      all_goals
        first
        | (have hno := Lib.hid (show ¬ RB bl from fun q => by cases hbb.2 q)
           clear hbb
           go_wp2_with fail
           go_ret
           exact ⟨ret_bool (NO.out fun h => hno.out ⟨h.2.2.1.1.1, h.2.2.1.2⟩).symm, HB1⟩)
        | skip
      all_goals
        have HRB := Lib.hid (hbb.1 rfl)
        have hl3 : n ≤ 3 := by have := HRB.out.1; have := HL.out; omega
        clear hbb
        have qy4 := (cell_of_block (k := 4) Hx1.out rfl).1; have qy6 := (cell_of_block (k := 6) Hx1.out rfl).1; have qy7 := (cell_of_block (k := 7) Hx1.out rfl).1; have qy11 := (cell_of_block (k := 11) Hx1.out rfl).1; have qy12 := (cell_of_block (k := 12) Hx1.out rfl).1
        go_wp2_with fail
      all_goals
        go_ret
        refine ⟨ret_bool ?_, HB1⟩
        have hl := HL.out
        first
        | (refine (NO.out fun h => ?_).symm
           have h1 := h.2.2.1.1.2 rfl
           omega)
        | (rw [← Hvv.out]
           unfold vldB
           rw [Bool.eq_iff_iff]
           simp only [emp_size, decide_eq_true_iff]
           refine Iff.trans ?_ ⟨fun h => ⟨⟨hP.out.1, hP.out.2.1, hP.out.2.2.1, hP.out.2.2.2, (by first | (intro h; cases h; done) | (intro _; exact bne_eq_false_iff_eq.1 (show (ack != 0) = false by assumption))), by omega, by omega⟩, ⟨by simp, by simp, by simp, by omega⟩, ⟨⟨HRB.out.1, by first | (intro h; cases h; done) | (intro _; omega)⟩, HRB.out.2⟩, h⟩, fun h => h.2.2.2⟩
           first
             | (simp [VS]; done)
             | (simp only [VS, Bool.or_self, Bool.false_eq_true, if_false]; omega))
    · subst hm
      go_wp2_with fail
      all_goals
        first
        | (go_ret
           refine ⟨ret_bool (NO.out fun h => ?_).symm, below_drewN HB _⟩
           obtain ⟨-, ⟨f1, f2, f3, f4⟩, -, -⟩ := h
           first
             | omega
             | (have f5 := (f3 rfl).1; omega)
             | (exact absurd (f3 rfl).2 (by decide)))
        | skip
      all_goals
        refine (rblocks_any A n c bl _ hn (HB0.out.below (below_drewN HB _))).mono ?_
        rintro e w1 ⟨⟨b, hbb, rfl⟩, hb⟩
        have Hx1 := Lib.hid (bblock (below_call (below_drewN HBa _) hb) Hx.out)
        have HB1 := below_call (below_drewN HB _) hb
        clear hb
        cases b
      all_goals
        first
        | (have hno := Lib.hid (show ¬ RB bl from fun q => by cases hbb.2 q)
           clear hbb
           go_wp2_with fail
           go_ret
           exact ⟨ret_bool (NO.out fun h => hno.out ⟨h.2.2.1.1.1, h.2.2.1.2⟩).symm, HB1⟩)
        | skip
      all_goals
        have HRB := Lib.hid (hbb.1 rfl)
        have hl3 : n ≤ 3 := by have := HRB.out.1; have := HL.out; omega
        clear hbb
        have qy4 := (cell_of_block (k := 4) Hx1.out rfl).1; have qy6 := (cell_of_block (k := 6) Hx1.out rfl).1; have qy7 := (cell_of_block (k := 7) Hx1.out rfl).1; have qy11 := (cell_of_block (k := 11) Hx1.out rfl).1; have qy12 := (cell_of_block (k := 12) Hx1.out rfl).1
        go_wp2_with fail
      all_goals
        go_ret
        refine ⟨ret_bool ?_, HB1⟩
        have hl := HL.out
        first
        | (refine (NO.out fun h => ?_).symm
           have h1 := h.2.2.1.1.2 rfl
           omega)
        | (rw [← Hvv.out]
           unfold vldB
           rw [Bool.eq_iff_iff]
           simp only [emp_size, decide_eq_true_iff]
           refine Iff.trans ?_ ⟨fun h => ⟨⟨hP.out.1, hP.out.2.1, hP.out.2.2.1, hP.out.2.2.2, (by first | (intro h; cases h; done) | (intro _; exact bne_eq_false_iff_eq.1 (show (ack != 0) = false by assumption))), by omega, by omega⟩, ⟨by simp, by simp, by simp, by omega⟩, ⟨⟨HRB.out.1, by first | (intro h; cases h; done) | (intro _; omega)⟩, HRB.out.2⟩, h⟩, fun h => h.2.2.2⟩
           first
             | (simp [VS]; done)
             | (simp only [VS, Bool.or_self, Bool.false_eq_true, if_false]; omega))
end Go.Proofs.Ytkinlmanimdlcaa.Sg
