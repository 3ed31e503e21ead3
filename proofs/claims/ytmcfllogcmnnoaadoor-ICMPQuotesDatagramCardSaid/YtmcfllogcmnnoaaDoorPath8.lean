/-
  The contract of Lower at arguments that the chapter allows.
-/
import Derived.Test.YtmcfllogcmnnoaaDoorPath7
import Derived.WalkMore
namespace Go.Proofs.YtmcfllogcmnnoaaDoor.Ic
set_option maxRecDepth 100000
open Go.RowKit Go.Proofs.YtmcfllogcmnnoaaDoor.Wire

theorem infoEnt : (Tryd.prog.info? 100).map (fun i => (i.zero, i.size, i.bytes)) = some (some (.agg #[.int .i64 0, .int .i64 0, .int .i64 0]), 3, 24) := by kernel_rfl
theorem keep_fresh (now : Int) (l : List En) : keepL (fun e => !freshB now e) l = l.filter (freshB now) := by
  unfold keepL
  congr 1
  funext e
  simp
/-- what Lower leaves -/
def LowPost (row : Option Nat) (B : Nat) (b : Bool) (l : List En) (w : World) (e : Ending) (w' : World) : Prop :=
  e = .returned (.bool b) ∧ ∃ row', IsP row' B l w' ∧ (row' = row ∨ ∃ g, row' = some g ∧ w.heap.size ≤ g) ∧ Ch B row w w'
/-- the slice is stored anew -/
theorem isP_store {row : Option Nat} {B c : Nat} {A : Option Addr} {l l' : List En} {w w1 : World} (h0 : row ≠ some B) (h1 : w.heap[B]? = some (.cells #[.slice A l.length c] 97 (0, 0))) (hg : w.grownBy w1 row) (hs : SlP row A c l' w1) :
    IsP row B l' (w1.setCell ⟨B, 0, none⟩ (.slice A l'.length c)) := by
  have h2 : w1.heap[B]? = some (.cells #[.slice A l.length c] 97 (0, 0)) := (hg.block B (blk_lt h1) (fun e => h0 e.symm)).trans h1
  refine ⟨h0, A, c, cells_eq (block_setCell (k := 0) (v := .slice A l'.length c) h2) rfl, hs.keep fun g hg' => ?_⟩
  subst hg'
  exact Below.heap_setCell w1 ⟨B, 0, none⟩ (.slice A l'.length c) g (fun e => h0 (by rw [e]))
set_option maxHeartbeats 8000000 in
theorem lower_yes (row : Option Nat) (B : Nat) (l : List En) (now to size : Int) (w : World) (h : lowOk now to size) (hp : IsP row B l w) (hk : Kept l) :
    Calls Tryd.prog 30 #[.pointer (some ⟨B, 0, none⟩), .int .i64 now, .int .i64 to, .int .i64 size] w (LowPost row B (lowB l now to size) (lowL l now to size) w) := by
  have HK := Lib.hid hk; have HKf := Lib.hid (kept_filter hk (freshB now))
  have hV := fun W => adrValid_any to W
  rw [decide_eq_true h.2.1] at hV
  have HV := Lib.hid hV; clear hV
  obtain ⟨⟨n0, n1⟩, -, s0, s1⟩ := id h
  have HOK := Lib.hid h; clear h
  have hN0 := alloc_new w (.cells #[.int .i64 now] 3)
  have HP0 := Lib.hid (hp.below ((Below.refl _ _).alloc (Nat.le_refl _) (.cells #[.int .i64 now] 3)))
  have HC0 := Ch.of_below (B := B) (row := row) (below_alloc (o := .cells #[.int .i64 now] 3) (Below.refl w.heap.size w))
  have hNB : B ≠ w.heap.size := by have := hp.lt; omega
  have hNr : some w.heap.size ≠ row := fun e => by
    obtain ⟨-, A, c, -, hs⟩ := hp
    have := hs.lt _ e.symm; omega
  have HN0 := Lib.hid hN0; clear hN0 hp hk
  have hl16 := HK.out.len
  go_enter Tryd.func30, Tryd.ntmps30
  go_wp2_with fail
  refine (HV.out _).mono ?_
  rintro e w1 ⟨rfl, hb⟩
  have HP1 := Lib.hid (HP0.out.below hb); have HC1 := HC0.below hb; have HN1 := Lib.hid (bblock hb HN0.out)
  clear HP0 HC0 HN0 hb
  obtain ⟨N, hN⟩ : ∃ N, N = w.heap.size := ⟨_, rfl⟩
  rw [← hN] at HN1 hNB hNr ⊢
  have hNw : w.heap.size ≤ N := by omega
  clear hN
  obtain ⟨h01, A1, c1, hb1, hs1⟩ := HP1.out
  have q1 := (cell_of_box hb1).1; have z1 := (cell_of_box hb1).2; have lt1 := blk_lt hb1
  have HB1 := Lib.hid hb1
  have HT : Hid (TestsO 57 #[.pointer (some ⟨N, 0, none⟩)] (fun e => !freshB now e) row l w1) := Lib.hid fun g hg => old_tests N g now l w1 HN1.out (fun e => hNr (by rw [hg, e])) (fun e he => by have := HK.out.ok e he; exact ⟨this.1, this.2.1⟩)
  have HD := Lib.hid (delete_o 57 #[.pointer (some ⟨N, 0, none⟩)] (enters_of Tryd.func57 (by kernel_rfl) rfl) (fun e => !freshB now e) row A1 c1 l w1 (by omega) hs1 HT.out)
  rw [keep_fresh] at HD
  clear hb1 hs1 HT
  go_wp2_with fail
  refine HD.out.mono ?_
  rintro e w2 ⟨rfl, hsl, hg⟩
  have HP2 := Lib.hid (isP_store h01 HB1.out hg hsl)
  have HC2 := (HC1.trans (.of_grown hg) (.inl rfl)).set 0 (.slice A1 (l.filter (freshB now)).length c1)
  have HN2 := Lib.hid (block_set_other (a := ⟨B, 0, none⟩) (u := .slice A1 (l.filter (freshB now)).length c1) ((hg.block N (blk_lt HN1.out) hNr).trans HN1.out) hNB)
  have qB := (cell_of_box ((hg.block B lt1 (fun e => h01 e.symm)).trans HB1.out)).1; have zB := (cell_of_box ((hg.block B lt1 (fun e => h01 e.symm)).trans HB1.out)).2
  go_upto_region 6 with fail
  generalize w2.setCell ⟨B, 0, none⟩ (.slice A1 (l.filter (freshB now)).length c1) = W2 at *
  clear HP1 HB1 q1 z1 lt1 qB zB hsl hg HC1 HN1 HD
  obtain ⟨m, hm⟩ : ∃ m, m = l.filter (freshB now) := ⟨_, rfl⟩
  rw [← hm] at HP2 HKf
  have HM := Lib.hid hm; clear hm
  have HF := Lib.hid (pfind_any row B m to W2 HP2.out (by have := HKf.out.len; omega))
  have hm16 : m.length ≤ 16 := HKf.out.len
  cases hf : m.find? (toB to) with
  | none =>
    rw [hf] at HF
    have HR : Hid (lowB l now to size = true ∧ lowL l now to size = pushE m ⟨to, size, now⟩) := Lib.hid (by
      unfold lowB lowL
      rw [if_pos HOK.out, if_pos HOK.out, ← HM.out, hf]
      exact ⟨rfl, rfl⟩)
    clear hf
    go_wp2_with fail
    refine HF.out.mono ?_
    rintro e w3 ⟨rfl, hb⟩
    unfold fndV
    go_upto_region 11 with fail
    have HB0 := (below_alloc (o := .cells #[.int .i64 0, .int .i64 0, .int .i64 0] 100) (Below.refl w3.heap.size w3))
    have hb' := below_call hb HB0
    have HP3 := Lib.hid (HP2.out.below hb'); have HC := HC2.below hb'; have HN := Lib.hid (bblock hb' HN2.out)
    clear HP2 HC2 HN2 hb HB0 hb' HF
    generalize World.alloc w3 (.cells #[.int .i64 0, .int .i64 0, .int .i64 0] 100) = W3 at *
    obtain ⟨h03, A3, c3, hb3, hs3⟩ := HP3.out
    have q3 := (cell_of_box hb3).1; have z3 := (cell_of_box hb3).2; have lt3 := blk_lt hb3
    have HB3 := Lib.hid hb3; have HS3 := Lib.hid hs3; clear hb3 hs3
    by_cases h16 : 16 ≤ m.length
    · have HE : Hid (lowL l now to size = m.drop 1 ++ [⟨to, size, now⟩]) := Lib.hid (HR.out.2.trans (show pushE m ⟨to, size, now⟩ = m.drop 1 ++ [⟨to, size, now⟩] by unfold pushE; rw [if_pos h16]))
      have HD := Lib.hid (drop_o row A3 c3 m W3 (by omega) HS3.out)
      have h16z : (16 : Int) ≤ (m.length : Int) := by omega
      go_wp2_with fail
      refine HD.out.mono ?_
      rintro e v1 ⟨he, hsl, hg⟩
      have hld : (m.drop 1).length = m.length - 1 := List.length_drop
      rw [hld] at he
      subst he
      have hps := isP_store h03 HB3.out hg hsl
      rw [hld] at hps
      have HP' := Lib.hid hps; clear hps hld
      have HC' := (HC.trans (.of_grown hg) (.inl rfl)).set 0 (.slice A3 (m.length - 1) c3)
      have HN' := Lib.hid (block_set_other (a := ⟨B, 0, none⟩) (u := .slice A3 (m.length - 1) c3) ((hg.block N (blk_lt HN.out) hNr).trans HN.out) hNB)
      have qB := (cell_of_box ((hg.block B lt3 (fun e => h03 e.symm)).trans HB3.out)).1; have zB := (cell_of_box ((hg.block B lt3 (fun e => h03 e.symm)).trans HB3.out)).2
      go_upto_region 13 with fail
      generalize v1.setCell ⟨B, 0, none⟩ (.slice A3 (m.length - 1) c3) = W9 at *
      clear HP3 HB3 HS3 q3 z3 qB zB hsl hg HC HN
      obtain ⟨hp0, A9, c9, hb9, hs9⟩ := HP'.out
      have q9 := (cell_of_box hb9).1; have z9 := (cell_of_box hb9).2; have lt9 := blk_lt hb9
      have qn := (cell_of_box HN'.out).1
      have HB9 := Lib.hid hb9; clear hb9
      obtain ⟨hown, hobk⟩ := hs9.owns
      have hl16 : (m.drop 1).length ≤ 16 := by first | exact hm16 | (rw [List.length_drop]; omega)
      obtain ⟨m9, hm9⟩ : ∃ m9, m9 = m.drop 1 := ⟨_, rfl⟩
      rw [← hm9] at hown hobk hl16 q9 HB9 HE
      have HM9 := Lib.hid hm9
      have Hown := Lib.hid hown; have Hobk := Lib.hid hobk; clear hown hobk hs9 hm9 HM9
      obtain ⟨i0, hi, hz0, hz1, hz2⟩ := info_parts infoEnt
      have HNW := Lib.hid (blk_lt HN'.out)
      go_region_law (refine step_append_lies _ (by rfl) _ _ _ (by rfl) 0 100 i0 (.agg #[.int .i64 0, .int .i64 0, .int .i64 0]) 3 24 Tryd.underlying95 hi hz0 hz1 hz2 rfl (by decide) (.slice A9 m9.length c9) m9.length _ (by rfl) (Hown.out.alloc _) ⟨W9.heap.size, 0, none⟩ 1 1 [.int .i64 to, .int .i64 size, .int .i64 now] (by rfl) rfl (World.news_of_block (heap_alloc_new W9 _)) (by simp [Value.oneCell']) (by omega) (by unfold maxLen; omega) (by omega) (by simp) (W9.heap.size + 1) (by simp) ?_; intro g cap x3 hown3 hgrow3 hat3 hlt3; rw [Hobk.out] at hgrow3 hat3; have hB3 := (hgrow3.block B (blk_lt (block_alloc HB9.out _)) (fun e => hp0 e.symm)).trans (block_alloc HB9.out _); have q3 := (cell_of_box hB3).1; have z3 := (cell_of_box hB3).2)
      all_goals
        go_wp2_with fail
        go_ret
        have hsz3 := hgrow3.size
        have hszA : (W9.alloc (.cells #[.int .i64 to, .int .i64 size, .int .i64 now] 100)).heap.size = W9.heap.size + 1 := by simp
        have hwW := HC'.size
        have hgB : (some g : Option Nat) ≠ some B := fun e => by
          have e := Option.some.inj e
          rcases hat3 with q | q
          · exact hp0 (by rw [q, e])
          · omega
        refine ⟨by rw [HR.out.1]; rfl, some g, ?_, ?_, ?_⟩
        · rw [HE.out]
          refine ⟨hgB, some ⟨g, 0, none⟩, cap, cells_eq (block_setCell (k := 0) (v := .slice (some ⟨g, 0, none⟩) (m9.length + 1) cap) hB3) (by simp), (slP_of_owns (n := m9.length + 1) (by simp) (by rw [enCells_snoc]; exact hown3)).keep fun g' hg' => ?_⟩
          cases hg'
          exact Below.heap_setCell x3 ⟨B, 0, none⟩ _ g (fun e => hgB (by rw [e]))
        · rcases hat3 with q | q
          · exact .inl q.symm
          · exact .inr ⟨g, rfl, by omega⟩
        · exact ((HC'.below (below_alloc (Below.refl _ _).drew)).trans (.of_grown hgrow3) (.inl rfl)).set 0 _
    · have HE : Hid (lowL l now to size = m ++ [⟨to, size, now⟩]) := Lib.hid (HR.out.2.trans (show pushE m ⟨to, size, now⟩ = m ++ [⟨to, size, now⟩] by unfold pushE; rw [if_neg h16]))
      have h16z : ¬ (16 : Int) ≤ (m.length : Int) := by omega
      go_upto_region 13 with fail
      have HP' := HP3; have HC' := HC; have HN' := HN
      clear HP3 HB3 HS3 q3 z3 HC HN
      obtain ⟨hp0, A9, c9, hb9, hs9⟩ := HP'.out
      have q9 := (cell_of_box hb9).1; have z9 := (cell_of_box hb9).2; have lt9 := blk_lt hb9
      have qn := (cell_of_box HN'.out).1
      have HB9 := Lib.hid hb9; clear hb9
      obtain ⟨hown, hobk⟩ := hs9.owns
      have hl16 : (m).length ≤ 16 := by first | exact hm16 | (rw [List.length_drop]; omega)
      obtain ⟨m9, hm9⟩ : ∃ m9, m9 = m := ⟨_, rfl⟩
      rw [← hm9] at hown hobk hl16 q9 HB9 HE
      have HM9 := Lib.hid hm9
      have Hown := Lib.hid hown; have Hobk := Lib.hid hobk; clear hown hobk hs9 hm9 HM9
      obtain ⟨i0, hi, hz0, hz1, hz2⟩ := info_parts infoEnt
      have HNW := Lib.hid (blk_lt HN'.out)
      go_region_law (refine step_append_lies _ (by rfl) _ _ _ (by rfl) 0 100 i0 (.agg #[.int .i64 0, .int .i64 0, .int .i64 0]) 3 24 Tryd.underlying95 hi hz0 hz1 hz2 rfl (by decide) (.slice A9 m9.length c9) m9.length _ (by rfl) (Hown.out.alloc _) ⟨W3.heap.size, 0, none⟩ 1 1 [.int .i64 to, .int .i64 size, .int .i64 now] (by rfl) rfl (World.news_of_block (heap_alloc_new W3 _)) (by simp [Value.oneCell']) (by omega) (by unfold maxLen; omega) (by omega) (by simp) (W3.heap.size + 1) (by simp) ?_; intro g cap x3 hown3 hgrow3 hat3 hlt3; rw [Hobk.out] at hgrow3 hat3; have hB3 := (hgrow3.block B (blk_lt (block_alloc HB9.out _)) (fun e => hp0 e.symm)).trans (block_alloc HB9.out _); have q3 := (cell_of_box hB3).1; have z3 := (cell_of_box hB3).2)
      all_goals
        go_wp2_with fail
        go_ret
        have hsz3 := hgrow3.size
        have hszA : (W3.alloc (.cells #[.int .i64 to, .int .i64 size, .int .i64 now] 100)).heap.size = W3.heap.size + 1 := by simp
        have hwW := HC'.size
        have hgB : (some g : Option Nat) ≠ some B := fun e => by
          have e := Option.some.inj e
          rcases hat3 with q | q
          · exact hp0 (by rw [q, e])
          · omega
        refine ⟨by rw [HR.out.1]; rfl, some g, ?_, ?_, ?_⟩
        · rw [HE.out]
          refine ⟨hgB, some ⟨g, 0, none⟩, cap, cells_eq (block_setCell (k := 0) (v := .slice (some ⟨g, 0, none⟩) (m9.length + 1) cap) hB3) (by simp), (slP_of_owns (n := m9.length + 1) (by simp) (by rw [enCells_snoc]; exact hown3)).keep fun g' hg' => ?_⟩
          cases hg'
          exact Below.heap_setCell x3 ⟨B, 0, none⟩ _ g (fun e => hgB (by rw [e]))
        · rcases hat3 with q | q
          · exact .inl q.symm
          · exact .inr ⟨g, rfl, by omega⟩
        · exact ((HC'.below (below_alloc (Below.refl _ _).drew)).trans (.of_grown hgrow3) (.inl rfl)).set 0 _
  | some o =>
    rw [hf] at HF
    by_cases q : o.size ≤ size
    · have HR : Hid (lowB l now to size = false ∧ lowL l now to size = m) := Lib.hid (by
        unfold lowB lowL
        rw [if_pos HOK.out, if_pos HOK.out, ← HM.out, hf]
        exact ⟨decide_eq_false (by omega), if_pos q⟩)
      clear hf
      go_wp2_with fail
      refine HF.out.mono ?_
      rintro e w3 ⟨rfl, hb⟩
      unfold fndV enV
      go_wp2_with fail
      go_ret
      have hb' := below_alloc (o := .cells #[.int .i64 o.to, .int .i64 o.size, .int .i64 o.at_] 100) hb
      exact ⟨by rw [HR.out.1]; rfl, row, by rw [HR.out.2]; exact HP2.out.below hb', .inl rfl, HC2.below hb'⟩
    · have HR : Hid (lowB l now to size = true ∧ lowL l now to size = pushE (m.filter (fun e => !decide (e = o))) ⟨to, size, now⟩) := Lib.hid (by
        unfold lowB lowL
        rw [if_pos HOK.out, if_pos HOK.out, ← HM.out, hf]
        exact ⟨decide_eq_true (by omega), if_neg q⟩)
      clear hf
      go_wp2_with fail
      refine HF.out.mono ?_
      rintro e w3 ⟨rfl, hb⟩
      unfold fndV enV
      have hb' := below_alloc (o := .cells #[.int .i64 o.to, .int .i64 o.size, .int .i64 o.at_] 100) hb
      have HO3 := Lib.hid (alloc_new w3 (.cells #[.int .i64 o.to, .int .i64 o.size, .int .i64 o.at_] 100))
      have HP3 := Lib.hid (HP2.out.below hb'); have HC3 := HC2.below hb'; have HN3 := Lib.hid (bblock hb' HN2.out)
      obtain ⟨h03, A3, c3, hb3, hs3⟩ := HP3.out
      have lt2 := HP2.out.lt
      have hO : some w3.heap.size ≠ row := fun e => by
        obtain ⟨-, A, c, -, hs⟩ := HP2.out
        have := hs.lt _ e.symm
        have := hb.size
        omega
      have hOB : B ≠ w3.heap.size := by have := hb.size; omega
      have q3 := (cell_of_box hb3).1; have z3 := (cell_of_box hb3).2; have lt3 := blk_lt hb3
      have HB3 := Lib.hid hb3
      have HT : Hid (TestsO 60 #[.pointer (some ⟨w3.heap.size, 0, none⟩)] (fun e => decide (e = o)) row m (w3.alloc (.cells #[.int .i64 o.to, .int .i64 o.size, .int .i64 o.at_] 100))) := Lib.hid fun g hg => same_tests w3.heap.size g o m _ HO3.out (fun e => hO (by rw [hg, e]))
      have HD := Lib.hid (delete_o 60 #[.pointer (some ⟨w3.heap.size, 0, none⟩)] (enters_of Tryd.func60 (by kernel_rfl) rfl) (fun e => decide (e = o)) row A3 c3 m _ (by omega) hs3 HT.out)
      obtain ⟨m2, hm2⟩ : ∃ m2, m2 = m.filter (fun e => !decide (e = o)) := ⟨_, rfl⟩
      have hk2 : keepL (fun e => decide (e = o)) m = m2 := hm2.symm
      have hl2 : m2.length ≤ 16 := by rw [hm2]; exact Nat.le_trans (List.length_filter_le _ _) hm16
      rw [hk2] at HD
      rw [← hm2] at HR
      clear hm2 hk2 hb3 hs3 HT hb' HP2 HC2 HN2 hb HF HO3
      go_wp2_with fail
      refine HD.out.mono ?_
      rintro e w4 ⟨rfl, hsl, hg⟩
      have HP4 := Lib.hid (isP_store h03 HB3.out hg hsl)
      have HC := (HC3.trans (.of_grown hg) (.inl rfl)).set 0 (.slice A3 m2.length c3)
      have HN := Lib.hid (block_set_other (a := ⟨B, 0, none⟩) (u := .slice A3 m2.length c3) ((hg.block N (blk_lt HN3.out) hNr).trans HN3.out) hNB)
      have qB := (cell_of_box ((hg.block B lt3 (fun e => h03 e.symm)).trans HB3.out)).1; have zB := (cell_of_box ((hg.block B lt3 (fun e => h03 e.symm)).trans HB3.out)).2
      go_upto_region 11 with fail
      generalize w4.setCell ⟨B, 0, none⟩ (.slice A3 m2.length c3) = W4 at *
      clear HP3 HB3 q3 z3 lt3 qB zB hsl hg HC3 HN3 HD lt2 hO hOB h03
      have hm16 := hl2; clear hl2
      obtain ⟨h04, A4, c4, hb4, hs4⟩ := HP4.out
      have q4 := (cell_of_box hb4).1; have z4 := (cell_of_box hb4).2; have lt4 := blk_lt hb4
      have HB4 := Lib.hid hb4; have HS4 := Lib.hid hs4; clear hb4 hs4
      by_cases h16 : 16 ≤ m2.length
      · have HE : Hid (lowL l now to size = m2.drop 1 ++ [⟨to, size, now⟩]) := Lib.hid (HR.out.2.trans (show pushE m2 ⟨to, size, now⟩ = m2.drop 1 ++ [⟨to, size, now⟩] by unfold pushE; rw [if_pos h16]))
        have HD := Lib.hid (drop_o row A4 c4 m2 W4 (by omega) HS4.out)
        have h16z : (16 : Int) ≤ (m2.length : Int) := by omega
        go_wp2_with fail
        refine HD.out.mono ?_
        rintro e v1 ⟨he, hsl, hg⟩
        have hld : (m2.drop 1).length = m2.length - 1 := List.length_drop
        rw [hld] at he
        subst he
        have hps := isP_store h04 HB4.out hg hsl
        rw [hld] at hps
        have HP' := Lib.hid hps; clear hps hld
        have HC' := (HC.trans (.of_grown hg) (.inl rfl)).set 0 (.slice A4 (m2.length - 1) c4)
        have HN' := Lib.hid (block_set_other (a := ⟨B, 0, none⟩) (u := .slice A4 (m2.length - 1) c4) ((hg.block N (blk_lt HN.out) hNr).trans HN.out) hNB)
        have qB := (cell_of_box ((hg.block B lt4 (fun e => h04 e.symm)).trans HB4.out)).1; have zB := (cell_of_box ((hg.block B lt4 (fun e => h04 e.symm)).trans HB4.out)).2
        go_upto_region 13 with fail
        generalize v1.setCell ⟨B, 0, none⟩ (.slice A4 (m2.length - 1) c4) = W9 at *
        clear HP4 HB4 HS4 q4 z4 qB zB hsl hg HC HN
        obtain ⟨hp0, A9, c9, hb9, hs9⟩ := HP'.out
        have q9 := (cell_of_box hb9).1; have z9 := (cell_of_box hb9).2; have lt9 := blk_lt hb9
        have qn := (cell_of_box HN'.out).1
        have HB9 := Lib.hid hb9; clear hb9
        obtain ⟨hown, hobk⟩ := hs9.owns
        have hl16 : (m2.drop 1).length ≤ 16 := by first | exact hm16 | (rw [List.length_drop]; omega)
        obtain ⟨m9, hm9⟩ : ∃ m9, m9 = m2.drop 1 := ⟨_, rfl⟩
        rw [← hm9] at hown hobk hl16 q9 HB9 HE
        have HM9 := Lib.hid hm9
        have Hown := Lib.hid hown; have Hobk := Lib.hid hobk; clear hown hobk hs9 hm9 HM9
        obtain ⟨i0, hi, hz0, hz1, hz2⟩ := info_parts infoEnt
        have HNW := Lib.hid (blk_lt HN'.out)
        go_region_law (refine step_append_lies _ (by rfl) _ _ _ (by rfl) 0 100 i0 (.agg #[.int .i64 0, .int .i64 0, .int .i64 0]) 3 24 Tryd.underlying95 hi hz0 hz1 hz2 rfl (by decide) (.slice A9 m9.length c9) m9.length _ (by rfl) (Hown.out.alloc _) ⟨W9.heap.size, 0, none⟩ 1 1 [.int .i64 to, .int .i64 size, .int .i64 now] (by rfl) rfl (World.news_of_block (heap_alloc_new W9 _)) (by simp [Value.oneCell']) (by omega) (by unfold maxLen; omega) (by omega) (by simp) (W9.heap.size + 1) (by simp) ?_; intro g cap x3 hown3 hgrow3 hat3 hlt3; rw [Hobk.out] at hgrow3 hat3; have hB3 := (hgrow3.block B (blk_lt (block_alloc HB9.out _)) (fun e => hp0 e.symm)).trans (block_alloc HB9.out _); have q3 := (cell_of_box hB3).1; have z3 := (cell_of_box hB3).2)
        all_goals
          go_wp2_with fail
          go_ret
          have hsz3 := hgrow3.size
          have hszA : (W9.alloc (.cells #[.int .i64 to, .int .i64 size, .int .i64 now] 100)).heap.size = W9.heap.size + 1 := by simp
          have hwW := HC'.size
          have hgB : (some g : Option Nat) ≠ some B := fun e => by
            have e := Option.some.inj e
            rcases hat3 with q | q
            · exact hp0 (by rw [q, e])
            · omega
          refine ⟨by rw [HR.out.1]; rfl, some g, ?_, ?_, ?_⟩
          · rw [HE.out]
            refine ⟨hgB, some ⟨g, 0, none⟩, cap, cells_eq (block_setCell (k := 0) (v := .slice (some ⟨g, 0, none⟩) (m9.length + 1) cap) hB3) (by simp), (slP_of_owns (n := m9.length + 1) (by simp) (by rw [enCells_snoc]; exact hown3)).keep fun g' hg' => ?_⟩
            cases hg'
            exact Below.heap_setCell x3 ⟨B, 0, none⟩ _ g (fun e => hgB (by rw [e]))
          · rcases hat3 with q | q
            · exact .inl q.symm
            · exact .inr ⟨g, rfl, by omega⟩
          · exact ((HC'.below (below_alloc (Below.refl _ _).drew)).trans (.of_grown hgrow3) (.inl rfl)).set 0 _
      · have HE : Hid (lowL l now to size = m2 ++ [⟨to, size, now⟩]) := Lib.hid (HR.out.2.trans (show pushE m2 ⟨to, size, now⟩ = m2 ++ [⟨to, size, now⟩] by unfold pushE; rw [if_neg h16]))
        have h16z : ¬ (16 : Int) ≤ (m2.length : Int) := by omega
        go_upto_region 13 with fail
        have HP' := HP4; have HC' := HC; have HN' := HN
        clear HP4 HB4 HS4 q4 z4 HC HN
        obtain ⟨hp0, A9, c9, hb9, hs9⟩ := HP'.out
        have q9 := (cell_of_box hb9).1; have z9 := (cell_of_box hb9).2; have lt9 := blk_lt hb9
        have qn := (cell_of_box HN'.out).1
        have HB9 := Lib.hid hb9; clear hb9
        obtain ⟨hown, hobk⟩ := hs9.owns
        have hl16 : (m2).length ≤ 16 := by first | exact hm16 | (rw [List.length_drop]; omega)
        obtain ⟨m9, hm9⟩ : ∃ m9, m9 = m2 := ⟨_, rfl⟩
        rw [← hm9] at hown hobk hl16 q9 HB9 HE
        have HM9 := Lib.hid hm9
        have Hown := Lib.hid hown; have Hobk := Lib.hid hobk; clear hown hobk hs9 hm9 HM9
        obtain ⟨i0, hi, hz0, hz1, hz2⟩ := info_parts infoEnt
        have HNW := Lib.hid (blk_lt HN'.out)
        go_region_law (refine step_append_lies _ (by rfl) _ _ _ (by rfl) 0 100 i0 (.agg #[.int .i64 0, .int .i64 0, .int .i64 0]) 3 24 Tryd.underlying95 hi hz0 hz1 hz2 rfl (by decide) (.slice A9 m9.length c9) m9.length _ (by rfl) (Hown.out.alloc _) ⟨W4.heap.size, 0, none⟩ 1 1 [.int .i64 to, .int .i64 size, .int .i64 now] (by rfl) rfl (World.news_of_block (heap_alloc_new W4 _)) (by simp [Value.oneCell']) (by omega) (by unfold maxLen; omega) (by omega) (by simp) (W4.heap.size + 1) (by simp) ?_; intro g cap x3 hown3 hgrow3 hat3 hlt3; rw [Hobk.out] at hgrow3 hat3; have hB3 := (hgrow3.block B (blk_lt (block_alloc HB9.out _)) (fun e => hp0 e.symm)).trans (block_alloc HB9.out _); have q3 := (cell_of_box hB3).1; have z3 := (cell_of_box hB3).2)
        all_goals
          go_wp2_with fail
          go_ret
          have hsz3 := hgrow3.size
          have hszA : (W4.alloc (.cells #[.int .i64 to, .int .i64 size, .int .i64 now] 100)).heap.size = W4.heap.size + 1 := by simp
          have hwW := HC'.size
          have hgB : (some g : Option Nat) ≠ some B := fun e => by
            have e := Option.some.inj e
            rcases hat3 with q | q
            · exact hp0 (by rw [q, e])
            · omega
          refine ⟨by rw [HR.out.1]; rfl, some g, ?_, ?_, ?_⟩
          · rw [HE.out]
            refine ⟨hgB, some ⟨g, 0, none⟩, cap, cells_eq (block_setCell (k := 0) (v := .slice (some ⟨g, 0, none⟩) (m9.length + 1) cap) hB3) (by simp), (slP_of_owns (n := m9.length + 1) (by simp) (by rw [enCells_snoc]; exact hown3)).keep fun g' hg' => ?_⟩
            cases hg'
            exact Below.heap_setCell x3 ⟨B, 0, none⟩ _ g (fun e => hgB (by rw [e]))
          · rcases hat3 with q | q
            · exact .inl q.symm
            · exact .inr ⟨g, rfl, by omega⟩
          · exact ((HC'.below (below_alloc (Below.refl _ _).drew)).trans (.of_grown hgrow3) (.inl rfl)).set 0 _
theorem lower_any (row : Option Nat) (B : Nat) (l : List En) (now to size : Int) (w : World) (hp : IsP row B l w) (hk : Kept l) :
    Calls Tryd.prog 30 #[.pointer (some ⟨B, 0, none⟩), .int .i64 now, .int .i64 to, .int .i64 size] w (LowPost row B (lowB l now to size) (lowL l now to size) w) := by
  by_cases h : lowOk now to size
  · exact lower_yes row B l now to size w h hp hk
  · refine (lower_no B now to size w h).mono ?_
    rintro e w' ⟨rfl, hb⟩
    unfold lowB lowL
    rw [if_neg h, if_neg h]
    exact ⟨rfl, row, hp.below hb, .inl rfl, .of_below hb⟩
end Go.Proofs.YtmcfllogcmnnoaaDoor.Ic
