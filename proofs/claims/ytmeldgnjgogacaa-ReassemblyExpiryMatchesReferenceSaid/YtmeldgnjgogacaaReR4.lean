/-
  The reference of chapter 7: a fragment with MF is laid into a new half.
-/
import Derived.Test.YtmeldgnjgogacaaReR3
import Derived.Test.YtmeldgnjgogacaaReChg
import Derived.Test.YtmeldgnjgogacaaStore
import Derived.StillTailTactics
namespace Go.Proofs.Ytmeldgnjgogacaa.Re
set_option maxRecDepth 100000
open Go.RowKit Go.Proofs.Ytmeldgnjgogacaa.Wire
open Go.Proofs.Ytmeldgnjgogacaa.Ip (Pk vlenB VLen)

/-- the marks of the bytes from o to o + k -/
def marks (o k : Nat) : List Bool := (List.range 4000).map fun j => decide (o ≤ j ∧ j < o + k)
theorem marks_len (o k : Nat) : (marks o k).length = 4000 := by unfold marks; simp
theorem marks_zero (o : Nat) : marks o 0 = List.replicate 4000 false := by
  apply List.ext_getElem?
  intro j
  unfold marks
  rw [List.getElem?_map, List.getElem?_replicate]
  by_cases hj : j < 4000
  · rw [List.getElem?_range hj, if_pos hj]; simp
  · rw [List.getElem?_eq_none (by simp; omega), if_neg hj]; rfl
theorem marks_at (o k j : Nat) (hj : j < 4000) : (marks o k)[j]? = some (decide (o ≤ j ∧ j < o + k)) := by
  unfold marks
  rw [List.getElem?_map, List.getElem?_range hj]; rfl
theorem marks_set (o k : Nat) (h : o + k < 4000) : (marks o k).set (o + k) true = marks o (k + 1) := by
  apply List.ext_getElem?
  intro j
  rw [List.getElem?_set, marks_len]
  by_cases hj : j < 4000
  · rw [marks_at _ _ _ hj, marks_at _ _ _ hj]
    by_cases e : o + k = j
    · rw [if_pos e, if_pos (by omega)]; congr 1; exact (decide_eq_true (by omega)).symm
    · rw [if_neg e]; congr 1; exact decide_eq_decide.2 (by omega)
  · rw [if_neg (by omega), List.getElem?_eq_none (by rw [marks_len]; omega), List.getElem?_eq_none (by rw [marks_len]; omega)]
variable {lo : Nat} {p : Pk} {now : Int} {hb gb gt : Nat} {F : Pk} {has : Bool} {by_ : List UInt8} {hv : List Bool} {W : World}
theorem RH.setT (h : RH lo p now hb gb gt F has by_ hv W) (k : Nat) (x : Bool) : RH lo p now hb gb gt F has by_ (hv.set k x) (W.setCell ⟨gt, k, none⟩ (.bool x)) := by
  obtain ⟨n1, n2, n3, n4, n5, n6⟩ := h.ne
  refine ⟨block_set_other h.h (by show gt ≠ hb; omega), block_set_other h.b (by show gt ≠ gb; omega), ?_, h.ne, h.len.1, by rw [List.length_set]; exact h.len.2⟩
  exact cells_eq (block_setCell (k := k) (v := .bool x) h.t) (by simp [List.map_set])
theorem RH.setB (h : RH lo p now hb gb gt F has by_ hv W) (k : Nat) (x : UInt8) : RH lo p now hb gb gt F has (by_.set k x) hv (W.setCell ⟨gb, k, none⟩ (.int .u8 ((x.toNat : Nat) : Int))) := by
  obtain ⟨n1, n2, n3, n4, n5, n6⟩ := h.ne
  refine ⟨block_set_other h.h (by show gb ≠ hb; omega), ?_, block_set_other h.t (by show gb ≠ gt; omega), h.ne, by rw [List.length_set]; exact h.len.1, h.len.2⟩
  exact cells_eq (block_setCell (k := k) (v := .int .u8 ((x.toNat : Nat) : Int)) h.b) (by simp [List.map_set])
theorem RH.drew (h : RH lo p now hb gb gt F has by_ hv W) : RH lo p now hb gb gt F has by_ hv W.drew := ⟨h.h, h.b, h.t, h.ne, h.len⟩
theorem RH.below {W' : World} (h : RH lo p now hb gb gt F has by_ hv W) (hl : Below W.heap.size W W') : RH lo p now hb gb gt F has by_ hv W' := ⟨bblock hl h.h, bblock hl h.b, bblock hl h.t, h.ne, h.len⟩
def RS (hb gb gt k : Nat) : Prop := k = hb ∨ k = gb ∨ k = gt
set_option maxHeartbeats 4000000 in
theorem rlay_new (by_ : List UInt8) (w : World) (q : Pk) (h : RH lo p now hb gb gt pk0 false by_ (List.replicate 4000 false) w) (h0 : 0 ≤ q.off) (hm : q.off + q.s.size ≤ 4000) :
    Calls Try.prog 43 #[.pointer (some ⟨hb, 0, none⟩), .agg #[.int .i64 q.f, .int .i64 q.t, .int .i64 q.pr, .int .i64 q.ttl, .int .i64 q.id, .bool q.df, .bool true, .int .i64 q.off, .string q.s]] w fun x w' => x = .returned (.tuple #[]) ∧ (∃ b', RH lo p now hb gb gt (if q.off = 0 then { q with mf := true } else pk0) (decide (q.off = 0)) b' (marks q.off.toNat q.s.size) w') ∧ Chg (RS hb gb gt) w w' := by
  have HQ := Lib.hid (alloc_new w (.cells #[.int .i64 q.f, .int .i64 q.t, .int .i64 q.pr, .int .i64 q.ttl, .int .i64 q.id, .bool q.df, .bool true, .int .i64 q.off, .string q.s] 30))
  have HH := Lib.hid (h.below ((Below.refl w.heap.size w).alloc (Nat.le_refl _) (.cells #[.int .i64 q.f, .int .i64 q.t, .int .i64 q.pr, .int .i64 q.ttl, .int .i64 q.id, .bool q.df, .bool true, .int .i64 q.off, .string q.s] 30)))
  have HC := Lib.hid ((Chg.refl (RS hb gb gt) w).alloc (.cells #[.int .i64 q.f, .int .i64 q.t, .int .i64 q.pr, .int .i64 q.ttl, .int .i64 q.id, .bool q.df, .bool true, .int .i64 q.off, .string q.s] 30))
  have HN : Hid (hb ≠ w.heap.size ∧ gb ≠ w.heap.size ∧ gt ≠ w.heap.size) := Lib.hid ⟨by have := blk_lt h.h; omega, by have := blk_lt h.b; omega, by have := blk_lt h.t; omega⟩
  clear h
  obtain ⟨o, ho⟩ := Int.eq_ofNat_of_zero_le h0
  have hto : q.off.toNat = o := by omega
  rw [hto]
  have HTO := Lib.hid ho; clear hto ho
  obtain ⟨F0, hF⟩ : ∃ F0, (if q.off = 0 then { q with mf := true } else pk0) = F0 := ⟨_, rfl⟩
  obtain ⟨s0, hS⟩ : ∃ s0, decide (q.off = 0) = s0 := ⟨_, rfl⟩
  rw [hF, hS]
  have HF := Lib.hid hF; have HS := Lib.hid hS; clear hF hS
  go_enter Try.func43, Try.ntmps43
  go_upto_region 1 with fail
  generalize w.alloc (.cells #[.int .i64 q.f, .int .i64 q.t, .int .i64 q.pr, .int .i64 q.ttl, .int .i64 q.id, .bool q.df, .bool true, .int .i64 q.off, .string q.s] 30) = w1 at *
  have e8 := (cell_of_block (k := 8) HQ.out rfl).1
  go_wp2_with fail
  go_loopw [4] (fun i wr => ∃ (k : Nat) (b' : List UInt8), k ≤ q.s.size ∧ i = .int .i64 (k : Int) ∧ RH lo p now hb gb gt pk0 false b' (marks o k) wr ∧ Chg (RS hb gb gt) w wr ∧ wr.heap[w.heap.size]? = some (.cells #[.int .i64 q.f, .int .i64 q.t, .int .i64 q.pr, .int .i64 q.ttl, .int .i64 q.id, .bool q.df, .bool true, .int .i64 q.off, .string q.s] 30)) (fun i _ => q.s.size - (Go.RowKit.intOf i).toNat)
  case atStart => exact ⟨0, by_, by omega, rfl, by rw [marks_zero]; exact HH.out, HC.out, HQ.out⟩
  case round =>
    clear HH HC
    obtain ⟨k, b', hk, rfl, hh, hc, hq⟩ := hrel
    have HH := Lib.hid hh; have HC := Lib.hid hc; have HQ1 := Lib.hid hq
    clear e8 hh hc hq HQ
    have e6 := (cell_of_block (k := 6) HQ1.out rfl).1; have e7 := (cell_of_block (k := 7) HQ1.out rfl).1; have e8 := (cell_of_block (k := 8) HQ1.out rfl).1
    
    have ho := HTO.out
    by_cases hlt : k < q.s.size
    · have d1 : decide ((k : Int) < (q.s.size : Int)) = true := decide_eq_true (by omega)
      have hk0 : (0 : Int) ≤ (k : Int) := by omega
      have hks : (k : Int) < (q.s.size : Int) := by omega
      rw [ho] at e7
      have i1 : (o : Int) + (k : Int) < 4000 := by omega
      have i2 : 0 ≤ (o : Int) + (k : Int) := by omega
      have i3 : ((o : Int) + (k : Int)).toNat = o + k := by omega
      have i4 : IntKind.i64.wrap ((o : Int) + (k : Int)) = (o : Int) + (k : Int) := IntWalk.i64_in _ (by omega)
      clear ho
      have g11 := (cell_of_block (k := 11) HH.out.h rfl).1
      obtain ⟨m1, m2⟩ := (cell_of_block (k := o + k) (v := .bool (decide (o ≤ o + k ∧ o + k < o + k))) HH.out.t (by rw [List.getElem?_toArray, List.getElem?_map, marks_at _ _ _ (by omega)]; rfl))
      go_upto_region 4 with fail
      go_still_tail 9, (by kernel_rfl)
      change wpList _ _ _ _ _ wr.drew
      have HH2 := Lib.hid HH.out.drew; have HC2 := Lib.hid HC.out.drew
      have HQ2 : Hid (wr.drew.heap[w.heap.size]? = some (.cells #[.int .i64 q.f, .int .i64 q.t, .int .i64 q.pr, .int .i64 q.ttl, .int .i64 q.id, .bool q.df, .bool true, .int .i64 q.off, .string q.s] 30)) := Lib.hid HQ1.out
      have m3 : wr.drew.cell? ⟨gt, o + k, none⟩ = some (.bool (decide (o ≤ o + k ∧ o + k < o + k))) := m1
      have m4 : wr.drew.frozen? ⟨gt, o + k, none⟩ = false := m2
      clear e6 e7 e8 g11 m1 m2 HH HC HQ1
      generalize wr.drew = w2 at *
      go_upto_region 5 with fail
      have HH3 : Hid (RH lo p now hb gb gt pk0 false b' (marks o (k + 1)) (w2.setCell ⟨gt, o + k, none⟩ (.bool true))) := Lib.hid (by rw [← marks_set o k (by omega)]; exact HH2.out.setT (o + k) true)
      have HC3 : Hid (Chg (RS hb gb gt) w (w2.setCell ⟨gt, o + k, none⟩ (.bool true))) := Lib.hid (HC2.out.set (p := ⟨gt, o + k, none⟩) (.inl (.inr (.inr rfl))) (.bool true))
      have HQ3 : Hid ((w2.setCell ⟨gt, o + k, none⟩ (.bool true)).heap[w.heap.size]? = some (.cells #[.int .i64 q.f, .int .i64 q.t, .int .i64 q.pr, .int .i64 q.ttl, .int .i64 q.id, .bool q.df, .bool true, .int .i64 q.off, .string q.s] 30)) := Lib.hid (block_set_other (a := ⟨gt, o + k, none⟩) (u := .bool true) HQ2.out HN.out.2.2)
      clear m3 m4 HH2 HC2 HQ2
      generalize w2.setCell ⟨gt, o + k, none⟩ (.bool true) = w3 at *
      have e7 := (cell_of_block (k := 7) HQ3.out rfl).1; have e8 := (cell_of_block (k := 8) HQ3.out rfl).1
      rw [HTO.out] at e7
      have g10 := (cell_of_block (k := 10) HH3.out.h rfl).1
      obtain ⟨bx, hbx⟩ : ∃ bx, b'[o + k]? = some bx := ⟨_, List.getElem?_eq_getElem (by have := HH3.out.len.1; omega)⟩
      obtain ⟨m1, m2⟩ := (cell_of_block (k := o + k) (v := .int .u8 ((bx.toNat : Nat) : Int)) HH3.out.b (by rw [List.getElem?_toArray, List.getElem?_map, hbx]; rfl))
      clear hbx
      go_still_tail 13, (by kernel_rfl)
      change wpList _ _ _ _ _ w3.drew
      have HH4 := Lib.hid HH3.out.drew; have HC4 := Lib.hid HC3.out.drew
      have HQ4 : Hid (w3.drew.heap[w.heap.size]? = some (.cells #[.int .i64 q.f, .int .i64 q.t, .int .i64 q.pr, .int .i64 q.ttl, .int .i64 q.id, .bool q.df, .bool true, .int .i64 q.off, .string q.s] 30)) := Lib.hid HQ3.out
      have m3 : w3.drew.cell? ⟨gb, o + k, none⟩ = some (.int .u8 ((bx.toNat : Nat) : Int)) := m1
      have m4 : w3.drew.frozen? ⟨gb, o + k, none⟩ = false := m2
      clear e7 e8 g10 m1 m2 HH3 HC3 HQ3
      generalize w3.drew = w4 at *
      go_wp2_with fail
      refine ⟨⟨k + 1, b'.set (o + k) (q.s[k]'(by omega)), by omega, by go_num, HH4.out.setB (o + k) _, HC4.out.set (p := ⟨gb, o + k, none⟩) (.inl (.inr (.inl rfl))) _, block_set_other (a := ⟨gb, o + k, none⟩) HQ4.out HN.out.2.1⟩, by simp [Go.RowKit.intOf]; omega⟩
    · have d1 : decide ((k : Int) < (q.s.size : Int)) = false := decide_eq_false (by omega)
      obtain rfl : k = q.s.size := by omega
      
      by_cases hz : q.off = 0
      · have t0 : (q.off == 0) = true := by rw [hz]; rfl
        have hF := HF.out; have hS := HS.out
        rw [if_pos hz] at hF; rw [decide_eq_true hz] at hS
        have HF1 := Lib.hid hF; have HS1 := Lib.hid hS; clear hF hS
        have g22 := (cell_of_block (k := 22) HH.out.h rfl).1
        have HHW := Lib.hid HH.out.h
        have hkeep : ∀ W', wr.grownBy W' (some hb) → W'.heap[hb]? = some (.cells #[.int .i64 p.f, .int .i64 p.t, .int .i64 p.pr, .int .i64 0, .int .i64 p.id, .bool false, .bool false, .int .i64 0, .string ⟨#[]⟩, .int .i64 now, .slice (some ⟨gb, 0, none⟩) 4000 4000, .slice (some ⟨gt, 0, none⟩) 4000 4000, .int .i64 (-1), .int .i64 q.f, .int .i64 q.t, .int .i64 q.pr, .int .i64 q.ttl, .int .i64 q.id, .bool q.df, .bool true, .int .i64 q.off, .string q.s, .bool true, .bool false] 89) → (∃ b', RH lo p now hb gb gt { q with mf := true } true b' (marks o q.s.size) W') ∧ Chg (RS hb gb gt) w W' := fun W' hg hW => by
          obtain ⟨n1, n2, n3, n4, n5, n6⟩ := HH.out.ne
          refine ⟨⟨b', hW, (hg.block gb (blk_lt HH.out.b) (by simp; omega)).trans HH.out.b, (hg.block gt (blk_lt HH.out.t) (by simp; omega)).trans HH.out.t, HH.out.ne, HH.out.len⟩, HC.out.grown hg (fun k e => by cases e; exact .inl (.inl rfl))⟩
        have HK := Lib.hid hkeep; clear hkeep
        clear hz ho
        go_upto_region 9 with fail
        have e0 := (cell_of_block (k := 0) HQ1.out rfl).1; have e1 := (cell_of_block (k := 1) HQ1.out rfl).1; have e2 := (cell_of_block (k := 2) HQ1.out rfl).1; have e3 := (cell_of_block (k := 3) HQ1.out rfl).1; have e4 := (cell_of_block (k := 4) HQ1.out rfl).1; have e5 := (cell_of_block (k := 5) HQ1.out rfl).1
        have g13 := (cell_of_block (k := 13) HH.out.h rfl).1; have y13 := (cell_of_block (k := 13) HH.out.h rfl).2; have g14 := (cell_of_block (k := 14) HH.out.h rfl).1; have y14 := (cell_of_block (k := 14) HH.out.h rfl).2; have g15 := (cell_of_block (k := 15) HH.out.h rfl).1; have y15 := (cell_of_block (k := 15) HH.out.h rfl).2; have g16 := (cell_of_block (k := 16) HH.out.h rfl).1; have y16 := (cell_of_block (k := 16) HH.out.h rfl).2; have g17 := (cell_of_block (k := 17) HH.out.h rfl).1; have y17 := (cell_of_block (k := 17) HH.out.h rfl).2; have g18 := (cell_of_block (k := 18) HH.out.h rfl).1; have y18 := (cell_of_block (k := 18) HH.out.h rfl).2; have g19 := (cell_of_block (k := 19) HH.out.h rfl).1; have y19 := (cell_of_block (k := 19) HH.out.h rfl).2; have g20 := (cell_of_block (k := 20) HH.out.h rfl).1; have y20 := (cell_of_block (k := 20) HH.out.h rfl).2; have g21 := (cell_of_block (k := 21) HH.out.h rfl).1; have y21 := (cell_of_block (k := 21) HH.out.h rfl).2; have y22 := (cell_of_block (k := 22) HH.out.h rfl).2
        go_wp2_with fail
        go_end0
        refine ⟨rfl, ?_⟩
        have hK := HK.out _ (only_set (only_set (only_set (only_set (only_set (only_set (only_set (only_set (only_set (only_set (World.grownBy.refl wr (some hb)) (.inl rfl) (.int .i64 q.f) (p := ⟨hb, 13, none⟩)) (.inl rfl) (.int .i64 q.t) (p := ⟨hb, 14, none⟩)) (.inl rfl) (.int .i64 q.pr) (p := ⟨hb, 15, none⟩)) (.inl rfl) (.int .i64 q.ttl) (p := ⟨hb, 16, none⟩)) (.inl rfl) (.int .i64 q.id) (p := ⟨hb, 17, none⟩)) (.inl rfl) (.bool q.df) (p := ⟨hb, 18, none⟩)) (.inl rfl) (.bool true) (p := ⟨hb, 19, none⟩)) (.inl rfl) (.int .i64 q.off) (p := ⟨hb, 20, none⟩)) (.inl rfl) (.string q.s) (p := ⟨hb, 21, none⟩)) (.inl rfl) (.bool true) (p := ⟨hb, 22, none⟩)) (cells_eq (block_setCell (k := 22) (v := .bool true) (block_setCell (k := 21) (v := .string q.s) (block_setCell (k := 20) (v := .int .i64 q.off) (block_setCell (k := 19) (v := .bool true) (block_setCell (k := 18) (v := .bool q.df) (block_setCell (k := 17) (v := .int .i64 q.id) (block_setCell (k := 16) (v := .int .i64 q.ttl) (block_setCell (k := 15) (v := .int .i64 q.pr) (block_setCell (k := 14) (v := .int .i64 q.t) (block_setCell (k := 13) (v := .int .i64 q.f) (HHW.out))))))))))) (by simp))
        rw [← HF1.out, ← HS1.out]
        exact hK
      · have t0 : (q.off == 0) = false := by rw [beq_eq_false_iff_ne]; exact hz
        have hF := HF.out; have hS := HS.out
        rw [if_neg hz] at hF; rw [decide_eq_false hz] at hS
        have HF1 := Lib.hid hF; have HS1 := Lib.hid hS; clear hF hS
        clear hz ho
        go_wp2_with fail
        go_end0
        exact ⟨rfl, ⟨b', by rw [← HF1.out, ← HS1.out]; exact HH.out⟩, HC.out⟩
end Go.Proofs.Ytmeldgnjgogacaa.Re
