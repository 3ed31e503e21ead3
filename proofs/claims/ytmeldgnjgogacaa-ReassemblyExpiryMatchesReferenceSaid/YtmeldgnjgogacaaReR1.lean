/-
  The reference of chapter 7: half at an empty table.
-/
import Derived.Test.YtmeldgnjgogacaaReR0
import Derived.Deep.AppendLies
import Derived.Deep.DeepCutAuto
import Derived.Deep.RegionHeld3
namespace Go.Proofs.Ytmeldgnjgogacaa.Re
set_option maxRecDepth 100000
open Go.RowKit Go.Proofs.Ytmeldgnjgogacaa.Wire
open Go.Proofs.Ytmeldgnjgogacaa.Ip (Pk vlenB VLen)

/-- a new half: its block, its bytes, its marks -/
structure RH0 (lo : Nat) (p : Pk) (now : Int) (hb gb gt : Nat) (W : World) : Prop where
  h : W.heap[hb]? = some (.cells #[.int .i64 p.f, .int .i64 p.t, .int .i64 p.pr, .int .i64 0, .int .i64 p.id, .bool false, .bool false, .int .i64 0, .string ⟨#[]⟩, .int .i64 now, .slice (some ⟨gb, 0, none⟩) 4000 4000, .slice (some ⟨gt, 0, none⟩) 4000 4000, .int .i64 (-1), .int .i64 0, .int .i64 0, .int .i64 0, .int .i64 0, .int .i64 0, .bool false, .bool false, .int .i64 0, .string ⟨#[]⟩, .bool false, .bool false] 89)
  b : W.heap[gb]? = some (.cells (List.replicate 4000 (Value.int .u8 0)).toArray 5 (0, 0))
  t : W.heap[gt]? = some (.cells (List.replicate 4000 (Value.bool false)).toArray 4 (0, 0))
  ne : lo ≤ hb ∧ lo ≤ gb ∧ lo ≤ gt ∧ hb ≠ gb ∧ hb ≠ gt ∧ gb ≠ gt
theorem made_rep (v : Value) (hv : v.cells = #[v]) (n : Nat) : madeCells v.cells n = (List.replicate n v).toArray := by
  rw [hv]
  unfold madeCells
  apply Array.ext
  · simp
  · intro i h1 h2
    simp [Nat.mod_one]
theorem rinfoU8 : (Try.prog.info? 5).map (fun i => (i.zero, i.size, i.bytes)) = some (some (.int .u8 0), 1, 1) := by kernel_rfl
theorem rinfoBo : (Try.prog.info? 4).map (fun i => (i.zero, i.size, i.bytes)) = some (some (.bool false), 1, 1) := by kernel_rfl
theorem rinfoPH : (Try.prog.info? 86).map (fun i => (i.zero, i.size, i.bytes)) = some (some (.pointer none), 1, 8) := by kernel_rfl
theorem mk_u8 (W : World) : (Instr.makeSlice 41 (.int .i64 4000) (.int .i64 4000)).run Try.prog W = .ok (.slice (some ⟨W.heap.size, 0, none⟩) 4000 4000) (W.alloc (.cells (List.replicate 4000 (Value.int .u8 0)).toArray 5)) := by
  obtain ⟨i0, hi, hz0, hz1, hz2⟩ := info_parts rinfoU8
  have h := run_makeSlice (P := Try.prog) (w := W) 41 5 i0 (.int .u8 0) Try.underlying41 hi hz0 .i64 .i64 4000 4000 (by omega) (by omega) (by rw [hz1]; decide) (by rw [hz2]; decide) (by omega)
  rw [hz1, made_rep _ rfl] at h
  exact h
theorem mk_bo (W : World) : (Instr.makeSlice 43 (.int .i64 4000) (.int .i64 4000)).run Try.prog W = .ok (.slice (some ⟨W.heap.size, 0, none⟩) 4000 4000) (W.alloc (.cells (List.replicate 4000 (Value.bool false)).toArray 4)) := by
  obtain ⟨i0, hi, hz0, hz1, hz2⟩ := info_parts rinfoBo
  have h := run_makeSlice (P := Try.prog) (w := W) 43 4 i0 (.bool false) Try.underlying43 hi hz0 .i64 .i64 4000 4000 (by omega) (by omega) (by rw [hz1]; decide) (by rw [hz2]; decide) (by omega)
  rw [hz1, made_rep _ rfl] at h
  exact h
set_option maxHeartbeats 8000000 in
theorem rhalf_new (T : Nat) (now : Int) (p : Pk) (w : World) (hT : w.heap[T]? = some (.cells #[.slice none 0 0] 75)) :
    Calls Try.prog 41 #[.pointer (some ⟨T, 0, none⟩), .int .i64 now, .agg #[.int .i64 p.f, .int .i64 p.t, .int .i64 p.pr, .int .i64 p.ttl, .int .i64 p.id, .bool p.df, .bool p.mf, .int .i64 p.off, .string p.s]] w fun x w' => ∃ hb gb gt gl c, x = .returned (.pointer (some ⟨hb, 0, none⟩)) ∧ RH0 w.heap.size p now hb gb gt w' ∧
      w'.heap[T]? = some (.cells #[.slice (some ⟨gl, 0, none⟩) 1 c] 75) ∧ w'.ownsRow w.heap.size 86 1 (.slice (some ⟨gl, 0, none⟩) 1 c) 1 [.pointer (some ⟨hb, 0, none⟩)] ∧ w.heap.size ≤ gl ∧ gl ≠ hb ∧ gl ≠ gb ∧ gl ≠ gt ∧ w.grownBy w' (some T) := by
  have hTl := blk_lt hT
  have HT1 := Lib.hid (block_alloc hT (.cells #[.int .i64 p.f, .int .i64 p.t, .int .i64 p.pr, .int .i64 p.ttl, .int .i64 p.id, .bool p.df, .bool p.mf, .int .i64 p.off, .string p.s] 30))
  have HP := Lib.hid (alloc_new w (.cells #[.int .i64 p.f, .int .i64 p.t, .int .i64 p.pr, .int .i64 p.ttl, .int .i64 p.id, .bool p.df, .bool p.mf, .int .i64 p.off, .string p.s] 30))
  have HB := Lib.hid (below_alloc (o := .cells #[.int .i64 p.f, .int .i64 p.t, .int .i64 p.pr, .int .i64 p.ttl, .int .i64 p.id, .bool p.df, .bool p.mf, .int .i64 p.off, .string p.s] 30) (Below.refl w.heap.size w))
  clear hT
  obtain ⟨C1, hC1⟩ : ∃ C1, (List.replicate 4000 (Value.int .u8 0)).toArray = C1 := ⟨_, rfl⟩
  obtain ⟨C2, hC2⟩ : ∃ C2, (List.replicate 4000 (Value.bool false)).toArray = C2 := ⟨_, rfl⟩
  have hmk1 := mk_u8
  have hmk2 := mk_bo
  simp only [hC1] at hmk1
  simp only [hC2] at hmk2
  have HC1 := Lib.hid hC1; have HC2 := Lib.hid hC2; clear hC1 hC2
  go_enter Try.func41, Try.ntmps41
  go_upto_region 1 with fail
  generalize w.alloc (.cells #[.int .i64 p.f, .int .i64 p.t, .int .i64 p.pr, .int .i64 p.ttl, .int .i64 p.id, .bool p.df, .bool p.mf, .int .i64 p.off, .string p.s] 30) = w1 at *
  have q0 := (cell_of_block (k := 0) HT1.out rfl).1
  go_wp2_with fail
  go_loopw [7] (fun i wr => i = .int .i64 0 ∧ wr = w1) (fun _ _ => 0)
  case atStart => exact ⟨rfl, rfl⟩
  case round =>
    obtain ⟨rfl, rfl⟩ := hrel
    obtain ⟨w1, rfl⟩ : ∃ wo : World, wo = wr := ⟨_, rfl⟩
    have e0 := (cell_of_block (k := 0) HP.out rfl).1; have e1 := (cell_of_block (k := 1) HP.out rfl).1; have e2 := (cell_of_block (k := 2) HP.out rfl).1; have e3 := (cell_of_block (k := 3) HP.out rfl).1; have e4 := (cell_of_block (k := 4) HP.out rfl).1; have e5 := (cell_of_block (k := 5) HP.out rfl).1; have e6 := (cell_of_block (k := 6) HP.out rfl).1; have e7 := (cell_of_block (k := 7) HP.out rfl).1; have e8 := (cell_of_block (k := 8) HP.out rfl).1
    go_upto_region 6 with fail
    go_cut [8] (fun s8 wx => ∃ hb gb gt, s8 = .pointer (some ⟨hb, 0, none⟩) ∧ RH0 w.heap.size p now hb gb gt wx ∧ Below w1.heap.size w1 wx)
    case first =>
      have HF := Lib.hid fun W => rfour_any p W
      have g0 := Lib.hid e0; have g1 := Lib.hid e1; have g2 := Lib.hid e2; have g3 := Lib.hid e3; have g4 := Lib.hid e4; have g5 := Lib.hid e5; have g6 := Lib.hid e6; have g7 := Lib.hid e7; have g8 := Lib.hid e8
      have HKP : Hid (∀ w', Below w1.heap.size w1 w' → (w'.cell? ⟨w.heap.size, 0, none⟩ = some (.int .i64 p.f) ∧ w'.cell? ⟨w.heap.size, 1, none⟩ = some (.int .i64 p.t) ∧ w'.cell? ⟨w.heap.size, 2, none⟩ = some (.int .i64 p.pr) ∧ w'.cell? ⟨w.heap.size, 3, none⟩ = some (.int .i64 p.ttl) ∧ w'.cell? ⟨w.heap.size, 4, none⟩ = some (.int .i64 p.id) ∧ w'.cell? ⟨w.heap.size, 5, none⟩ = some (.bool p.df) ∧ w'.cell? ⟨w.heap.size, 6, none⟩ = some (.bool p.mf) ∧ w'.cell? ⟨w.heap.size, 7, none⟩ = some (.int .i64 p.off) ∧ w'.cell? ⟨w.heap.size, 8, none⟩ = some (.string p.s) ∧ Below w1.heap.size w1 w')) := Lib.hid fun w' hb => ⟨bcell hb g0.out, bcell hb g1.out, bcell hb g2.out, bcell hb g3.out, bcell hb g4.out, bcell hb g5.out, bcell hb g6.out, bcell hb g7.out, bcell hb g8.out, hb⟩
      clear e0 e1 e2 e3 e4 e5 e6 e7 e8
      go_region_held3 (fun w' => w'.cell? ⟨w.heap.size, 0, none⟩ = some (.int .i64 p.f) ∧ w'.cell? ⟨w.heap.size, 1, none⟩ = some (.int .i64 p.t) ∧ w'.cell? ⟨w.heap.size, 2, none⟩ = some (.int .i64 p.pr) ∧ w'.cell? ⟨w.heap.size, 3, none⟩ = some (.int .i64 p.ttl) ∧ w'.cell? ⟨w.heap.size, 4, none⟩ = some (.int .i64 p.id) ∧ w'.cell? ⟨w.heap.size, 5, none⟩ = some (.bool p.df) ∧ w'.cell? ⟨w.heap.size, 6, none⟩ = some (.bool p.mf) ∧ w'.cell? ⟨w.heap.size, 7, none⟩ = some (.int .i64 p.off) ∧ w'.cell? ⟨w.heap.size, 8, none⟩ = some (.string p.s) ∧ Below w1.heap.size w1 w') ((refine HKP.out _ ?_; (repeat (first | with_reducible exact hR2.out | with_reducible exact Below.refl _ _ | with_reducible apply below_alloc | with_reducible apply Below.drew))))
        ((go_at_call 63; refine (HF.out _).mono ?_; rintro e v2 ⟨rfl, hb2⟩; have hK2 := Lib.hid hb2; have hR2 := Lib.hid (below_call (show Below w1.heap.size w1 _ from by first | exact (Below.refl _ _).drew | exact (below_alloc (Below.refl _ _)).drew | exact (below_alloc (below_alloc (Below.refl _ _))).drew) hb2)))
      all_goals
        have hz := HB.out.size
        have hz2 := hR2.out.size
        have hz3 := hK2.out.size
        go_wp2_with fail
        go_meet
        refine ⟨_, _, _, rfl, ⟨alloc_new' _ _ _ (by simp), ?_, ?_, ?_⟩, ?_⟩
        · rw [HC1.out]
          first
            | exact block_alloc (block_alloc (alloc_new _ _) _) _
            | exact block_alloc (alloc_new' _ _ _ (by simp)) _
            | exact block_alloc (alloc_new _ _) _
            | exact block_alloc (block_alloc (bblock hK2.out (alloc_new _ _)) _) _
            | exact block_alloc (bblock hK2.out (alloc_new' _ _ _ (by simp))) _
            | exact block_alloc (bblock hK2.out (block_alloc (alloc_new _ _) _)) _
        · rw [HC2.out]
          first
            | exact block_alloc (block_alloc (alloc_new _ _) _) _
            | exact block_alloc (alloc_new' _ _ _ (by simp)) _
            | exact block_alloc (alloc_new _ _) _
            | exact block_alloc (block_alloc (bblock hK2.out (alloc_new _ _)) _) _
            | exact block_alloc (bblock hK2.out (alloc_new' _ _ _ (by simp))) _
            | exact block_alloc (bblock hK2.out (block_alloc (alloc_new _ _) _)) _
        · simp at hz3 ⊢
          omega
        · first
            | exact below_alloc (below_alloc (below_alloc hR2.out))
            | exact below_alloc (below_alloc hR2.out)
            | exact below_alloc hR2.out
    case rest =>
      obtain ⟨hb, gb, gt, rfl, hH, hbw⟩ := hcut
      obtain ⟨w2, rfl⟩ : ∃ wo : World, wo = wc := ⟨_, rfl⟩
      have HH := Lib.hid hH; have HB2 := Lib.hid (below_call HB.out hbw)
      have HT2 := Lib.hid (bblock hbw HT1.out)
      have hlt2 := blk_lt HT2.out
      clear hH hbw e0 e1 e2 e3 e4 e5 e6 e7 e8 q0
      have hz := HB2.out.size
      have q0 := (cell_of_block (k := 0) HT2.out rfl).1
      obtain ⟨i0, hi, hz0, hz1, hz2⟩ := info_parts rinfoPH
      have hown0 : w2.ownsRow w.heap.size 86 1 (.slice none 0 0) 0 [] := ⟨rfl, .inl ⟨rfl, rfl⟩⟩
      have HO0 := Lib.hid (hown0.alloc (.cells #[.pointer (some ⟨hb, 0, none⟩)] 86))
      clear hown0
      go_wp2_with (at_builtin; refine wpList_append_lies _ rfl (.tmp 49) (.tmp 51) 73 rfl w.heap.size 86 i0 (.pointer none) 1 8 Try.underlying73 hi hz0 hz1 hz2 rfl (by decide) (.slice none 0 0) 0 [] rfl HO0.out ⟨w2.heap.size, 0, none⟩ 1 1 [.pointer (some ⟨hb, 0, none⟩)] rfl rfl (World.news_of_block (heap_alloc_new w2 _)) (by simp [Value.oneCell']) (by omega) (by unfold maxLen; omega) (by omega) (by simp; omega) (w2.heap.size + 1) (by simp) ?_; intro g cap w3 hown hgrow hat hlt; have hT3 := (hgrow.block T (blk_lt (block_alloc HT2.out _)) (by simp [Value.ownBlock])).trans (block_alloc HT2.out (.cells #[.pointer (some ⟨hb, 0, none⟩)] 86)); have q3 := (cell_of_block (k := 0) hT3 rfl).1; have z3 := (cell_of_block (k := 0) hT3 rfl).2)
      have hg : w2.heap.size ≤ g := by
        rcases hat with r | r
        · simp [Value.ownBlock] at r
        · first | omega | (simp at r; omega)
      obtain ⟨ne1, ne2, ne3, ne4, ne5, ne6⟩ := HH.out.ne
      have l1 := blk_lt HH.out.h; have l2 := blk_lt HH.out.b; have l3 := blk_lt HH.out.t
      have HW := Lib.hid hown
      have hk : ∀ q, q < w2.heap.size → q ≠ T → (World.setCell w3 ⟨T, 0, none⟩ (.slice (some ⟨g, 0, none⟩) (0 + 1) cap)).heap[q]? = w2.heap[q]? := fun q h1 h2 => by
        rw [Below.heap_setCell _ _ _ _ (by exact h2)]
        refine (hgrow.block q (by simp; omega) (by simp [Value.ownBlock])).trans ?_
        exact Below.heap_alloc w2 _ q h1
      have hR : w3.ownsRow w.heap.size 86 1 (.slice (some ⟨g, 0, none⟩) 1 cap) 1 [.pointer (some ⟨hb, 0, none⟩)] := hown
      have hR2 : (World.setCell w3 ⟨T, 0, none⟩ (.slice (some ⟨g, 0, none⟩) (0 + 1) cap)).ownsRow w.heap.size 86 1 (.slice (some ⟨g, 0, none⟩) 1 cap) 1 [.pointer (some ⟨hb, 0, none⟩)] := by
        refine ⟨hR.1, ?_⟩
        rcases hR.2 with r | ⟨g', cap', cur, e, r1, r2, r3⟩
        · exact .inl r
        · injection e with e1 e2 e3
          cases e1
          subst e3
          exact .inr ⟨g, cap, cur, rfl, r1, (Below.heap_setCell _ _ _ _ (by show g ≠ T; omega)).trans r2, r3⟩
      have hsz3 := hgrow.size
      go_ret
      refine ⟨hb, gb, gt, g, cap, rfl, ⟨(hk _ l1 (by omega)).trans HH.out.h, (hk _ l2 (by omega)).trans HH.out.b, (hk _ l3 (by omega)).trans HH.out.t, HH.out.ne⟩, cells_eq (block_setCell (k := 0) hT3) (by simp), hR2, by omega, by omega, by omega, by omega, ?_⟩
      exact ⟨hgrow.os.trans HB2.out.os, hgrow.tape.trans HB2.out.tape, hgrow.output.trans HB2.out.output, by have := hgrow.size; simp [World.setCell] at this ⊢; omega, fun q h1 h2 => (hk q (by omega) (fun r => h2 (by rw [r]))).trans (HB2.out.block q h1)⟩
end Go.Proofs.Ytmeldgnjgogacaa.Re
