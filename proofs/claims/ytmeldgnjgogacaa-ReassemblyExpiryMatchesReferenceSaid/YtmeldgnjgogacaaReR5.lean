/-
  The reference of chapter 7: Put of a fragment with MF at an empty table.
-/
import Derived.Test.YtmeldgnjgogacaaReR4
import Derived.Test.YtmeldgnjgogacaaRePut2
import Derived.Test.YtmeldgnjgogacaaRef06b
namespace Go.Proofs.Ytmeldgnjgogacaa.Re
set_option maxRecDepth 100000
open Go.RowKit Go.Proofs.Ytmeldgnjgogacaa.Wire
open Go.Proofs.Ytmeldgnjgogacaa.Ip (Pk vlenB VLen)

/-- the reference's table with one half -/
def ROne (lo T : Nat) (p : Pk) (now : Int) (F : Pk) (has : Bool) (hv : List Bool) (W : World) : Prop :=
  ∃ hb gb gt gl c by_, RH lo p now hb gb gt F has by_ hv W ∧ W.heap[T]? = some (.cells #[.slice (some ⟨gl, 0, none⟩) 1 c] 75) ∧ W.ownsRow lo 86 1 (.slice (some ⟨gl, 0, none⟩) 1 c) 1 [.pointer (some ⟨hb, 0, none⟩)] ∧ lo ≤ gl ∧ gl ≠ hb ∧ gl ≠ gb ∧ gl ≠ gt ∧ T < lo
/-- the reference's table with no half -/
def RNone (T : Nat) (W : World) : Prop := W.heap[T]? = some (.cells #[.slice none 0 0] 75)
theorem row_kept {W W' : World} {lo g c : Nat} {T : TypeId} {xs : List Value} {n : Nat} (h : W.ownsRow lo T 1 (.slice (some ⟨g, 0, none⟩) n c) n xs) (hk : W'.heap[g]? = W.heap[g]?) : W'.ownsRow lo T 1 (.slice (some ⟨g, 0, none⟩) n c) n xs := by
  refine ⟨h.1, ?_⟩
  rcases h.2 with q | ⟨g', cap, cur, e, q1, q2, q3⟩
  · exact .inl q
  · injection e with e1 e2 e3
    cases e1
    exact .inr ⟨g, cap, cur, by rw [e3], q1, hk.trans q2, q3⟩
theorem row_lt {W : World} {lo g c n : Nat} {T : TypeId} {xs : List Value} (h : W.ownsRow lo T 1 (.slice (some ⟨g, 0, none⟩) n c) n xs) : g < W.heap.size := by
  rcases h.2 with q | ⟨g', cap, cur, e, q1, q2, q3⟩
  · cases q.1
  · injection e with e1 e2 e3
    cases e1
    exact blk_lt q2
theorem ROne.kept {lo T : Nat} {p : Pk} {now : Int} {F : Pk} {has : Bool} {hv : List Bool} {W W' : World} (h : ROne lo T p now F has hv W) (hk : ∀ k, (k = T ∨ lo ≤ k) → k < W.heap.size → W'.heap[k]? = W.heap[k]?) : ROne lo T p now F has hv W' := by
  obtain ⟨hb, gb, gt, gl, c, by_, h1, h2, h3, h4, h5, h6, h7, h8⟩ := h
  obtain ⟨n1, n2, n3, n4⟩ := h1.ne
  exact ⟨hb, gb, gt, gl, c, by_, ⟨(hk _ (.inr n1) (blk_lt h1.h)).trans h1.h, (hk _ (.inr n2) (blk_lt h1.b)).trans h1.b, (hk _ (.inr n3) (blk_lt h1.t)).trans h1.t, h1.ne, h1.len⟩, (hk _ (.inl rfl) (blk_lt h2)).trans h2, row_kept h3 (hk _ (.inr h4) (row_lt h3)), h4, h5, h6, h7, h8⟩
theorem ROne.below {lo T : Nat} {p : Pk} {now : Int} {F : Pk} {has : Bool} {hv : List Bool} {W W' : World} (h : ROne lo T p now F has hv W) (hb : Below W.heap.size W W') : ROne lo T p now F has hv W' := h.kept fun k _ hl => hb.block k hl
set_option maxHeartbeats 8000000 in
theorem rput_new (T : Nat) (now : Int) (p : Pk) (w : World) (hT : RNone T w) (hv : vldB { p with mf := true } = true) :
    Calls Try.prog 17 #[.pointer (some ⟨T, 0, none⟩), .int .i64 now, .agg #[.int .i64 p.f, .int .i64 p.t, .int .i64 p.pr, .int .i64 p.ttl, .int .i64 p.id, .bool p.df, .bool true, .int .i64 p.off, .string p.s]] w fun x w' => x = PutRes pk0 false 0 ∧ ROne w.heap.size T p now (if p.off = 0 then { p with mf := true } else pk0) (decide (p.off = 0)) (marks p.off.toNat p.s.size) w' ∧ w.grownBy w' (some T) := by
  have hTl := blk_lt hT
  have hvb := vld_bounds hv
  have hvb1 : 0 ≤ p.off := hvb.1
  have hvb2 : p.off + p.s.size ≤ 4000 := hvb.2
  have HVAL := Lib.hid fun W => Ip.rvalid_any p.f p.t p.pr p.ttl p.id p.df true p.off p.s W (by omega)
  have hv2 : vlenB p.f p.t p.pr p.ttl p.id p.df true p.off p.s.size = true := hv
  rw [hv2] at HVAL; clear hv2 hv hvb
  have HP := Lib.hid (block_alloc (alloc_new w (.cells #[.int .i64 p.f, .int .i64 p.t, .int .i64 p.pr, .int .i64 p.ttl, .int .i64 p.id, .bool p.df, .bool true, .int .i64 p.off, .string p.s] 30)) (.cells #[.int .i64 0, .int .i64 0, .int .i64 0, .int .i64 0, .int .i64 0, .bool false, .bool false, .int .i64 0, .string ⟨#[]⟩] 30))
  have HR := Lib.hid (alloc_new' (w.alloc (.cells #[.int .i64 p.f, .int .i64 p.t, .int .i64 p.pr, .int .i64 p.ttl, .int .i64 p.id, .bool p.df, .bool true, .int .i64 p.off, .string p.s] 30)) (.cells #[.int .i64 0, .int .i64 0, .int .i64 0, .int .i64 0, .int .i64 0, .bool false, .bool false, .int .i64 0, .string ⟨#[]⟩] 30) (w.heap.size + 1) (by simp))
  have HB := Lib.hid (below_alloc (o := .cells #[.int .i64 0, .int .i64 0, .int .i64 0, .int .i64 0, .int .i64 0, .bool false, .bool false, .int .i64 0, .string ⟨#[]⟩] 30) (below_alloc (o := .cells #[.int .i64 p.f, .int .i64 p.t, .int .i64 p.pr, .int .i64 p.ttl, .int .i64 p.id, .bool p.df, .bool true, .int .i64 p.off, .string p.s] 30) (Below.refl w.heap.size w)))
  have HTT := Lib.hid (bblock HB.out hT)
  clear hT
  obtain ⟨F0, hF⟩ : ∃ F0, (if p.off = 0 then { p with mf := true } else pk0) = F0 := ⟨_, rfl⟩
  obtain ⟨s0, hS⟩ : ∃ s0, decide (p.off = 0) = s0 := ⟨_, rfl⟩
  obtain ⟨M0, hM⟩ : ∃ M0, marks p.off.toNat p.s.size = M0 := ⟨_, rfl⟩
  rw [hF, hS, hM]
  have HFE := Lib.hid hF; have HSE := Lib.hid hS; have HME := Lib.hid hM; clear hF hS hM
  go_enter Try.func17, Try.ntmps17
  go_upto_region 1 with fail
  generalize (w.alloc (.cells #[.int .i64 p.f, .int .i64 p.t, .int .i64 p.pr, .int .i64 p.ttl, .int .i64 p.id, .bool p.df, .bool true, .int .i64 p.off, .string p.s] 30)).alloc (.cells #[.int .i64 0, .int .i64 0, .int .i64 0, .int .i64 0, .int .i64 0, .bool false, .bool false, .int .i64 0, .string ⟨#[]⟩] 30) = w1 at *
  have qP0 := (cell_of_block (k := 0) HP.out rfl).1; have qP1 := (cell_of_block (k := 1) HP.out rfl).1; have qP2 := (cell_of_block (k := 2) HP.out rfl).1; have qP3 := (cell_of_block (k := 3) HP.out rfl).1; have qP4 := (cell_of_block (k := 4) HP.out rfl).1; have qP5 := (cell_of_block (k := 5) HP.out rfl).1; have qP6 := (cell_of_block (k := 6) HP.out rfl).1; have qP7 := (cell_of_block (k := 7) HP.out rfl).1; have qP8 := (cell_of_block (k := 8) HP.out rfl).1
  go_wp2_with fail
  refine (HVAL.out _).mono ?_
  rintro x w2 ⟨rfl, hb⟩
  clear qP0 qP1 qP2 qP3 qP4 qP5 qP6 qP7 qP8
  have HP' := Lib.hid (bblock hb HP.out); clear HP; have HP := HP'; clear HP'; have HR' := Lib.hid (bblock hb HR.out); clear HR; have HR := HR'; clear HR'
  have HTT' := Lib.hid (bblock hb HTT.out); clear HTT; have HTT := HTT'; clear HTT'
  have HB' := Lib.hid (below_call HB.out hb); clear HB hb; have HB := HB'; clear HB'
  have lt2 := blk_lt HR.out
  have qP0 := (cell_of_block (k := 0) HP.out rfl).1; have qP1 := (cell_of_block (k := 1) HP.out rfl).1; have qP2 := (cell_of_block (k := 2) HP.out rfl).1; have qP3 := (cell_of_block (k := 3) HP.out rfl).1; have qP4 := (cell_of_block (k := 4) HP.out rfl).1; have qP5 := (cell_of_block (k := 5) HP.out rfl).1; have qP6 := (cell_of_block (k := 6) HP.out rfl).1; have qP7 := (cell_of_block (k := 7) HP.out rfl).1; have qP8 := (cell_of_block (k := 8) HP.out rfl).1
  go_upto_region 5 with fail
  go_wp2_with fail
  refine (rhalf_new T now { p with mf := true } w2 HTT.out).mono ?_
  rintro x w3 ⟨hb, gb, gt, gl, c, rfl, hh, hT3, hrow, hgl, gn1, gn2, gn3, hg3⟩
  obtain ⟨n1, n2, n3, n4, n5, n6⟩ := hh.ne
  have HH := Lib.hid hh.rh; have HT3 := Lib.hid hT3; have HROW := Lib.hid hrow
  clear hh hT3 hrow HTT qP0 qP1 qP2 qP3 qP4 qP5 qP6 qP7 qP8
  have HP' := Lib.hid ((hg3.block _ (blk_lt HP.out) (by simp; omega)).trans HP.out); clear HP; have HP := HP'; clear HP'; have HR' := Lib.hid ((hg3.block _ (blk_lt HR.out) (by simp; omega)).trans HR.out); clear HR; have HR := HR'; clear HR'
  have HG : Hid (w.grownBy w3 (some T)) := Lib.hid ⟨hg3.os.trans HB.out.os, hg3.tape.trans HB.out.tape, hg3.output.trans HB.out.output, by have := hg3.size; have := HB.out.size; omega, fun k h1 h2 => (hg3.block k (by have := HB.out.size; omega) h2).trans (HB.out.block k h1)⟩
  have hz3 := hg3.size
  have hz2 := HB.out.size
  clear hg3
  have qP0 := (cell_of_block (k := 0) HP.out rfl).1; have qP1 := (cell_of_block (k := 1) HP.out rfl).1; have qP2 := (cell_of_block (k := 2) HP.out rfl).1; have qP3 := (cell_of_block (k := 3) HP.out rfl).1; have qP4 := (cell_of_block (k := 4) HP.out rfl).1; have qP5 := (cell_of_block (k := 5) HP.out rfl).1; have qP6 := (cell_of_block (k := 6) HP.out rfl).1; have qP7 := (cell_of_block (k := 7) HP.out rfl).1; have qP8 := (cell_of_block (k := 8) HP.out rfl).1
  have g23 := (cell_of_block (k := 23) HH.out.h rfl).1
  go_upto_region 6 with fail
  go_cut [9, 39] (fun s9 s39 wx => s9 = .pointer (some ⟨hb, 0, none⟩) ∧ s39 = .bool false ∧ Below w3.heap.size w3 wx)
  case first =>
    go_wp2_with fail
    refine (rfits_new w2.heap.size { p with mf := true } now hb gb gt pk0 false _ w3 HH.out p hvb1 hvb2).mono ?_
    rintro x w4 ⟨rfl, hb4⟩
    go_wp2_with fail
    go_meet
    exact ⟨rfl, rfl, hb4⟩
  case rest =>
    obtain ⟨rfl, rfl, hb4⟩ := hcut
    obtain ⟨w4, rfl⟩ : ∃ wo : World, wo = wc := ⟨_, rfl⟩
    clear qP0 qP1 qP2 qP3 qP4 qP5 qP6 qP7 qP8 g23
    have HP' := Lib.hid (bblock hb4 HP.out); clear HP; have HP := HP'; clear HP'; have HR' := Lib.hid (bblock hb4 HR.out); clear HR; have HR := HR'; clear HR'
    have HH4 := Lib.hid (HH.out.below hb4)
    have HC4 : Hid (Chg (RS hb gb gt) w3 w4) := Lib.hid (Chg.of_below hb4)
    have hz4 := hb4.size
    clear hb4 HH
    have qP0 := (cell_of_block (k := 0) HP.out rfl).1; have qP1 := (cell_of_block (k := 1) HP.out rfl).1; have qP2 := (cell_of_block (k := 2) HP.out rfl).1; have qP3 := (cell_of_block (k := 3) HP.out rfl).1; have qP4 := (cell_of_block (k := 4) HP.out rfl).1; have qP5 := (cell_of_block (k := 5) HP.out rfl).1; have qP6 := (cell_of_block (k := 6) HP.out rfl).1; have qP7 := (cell_of_block (k := 7) HP.out rfl).1; have qP8 := (cell_of_block (k := 8) HP.out rfl).1
    go_upto_region 9 with fail
    go_wp2_with fail
    refine (rlay_new _ w4 p HH4.out hvb1 hvb2).mono ?_
    rintro x w5 ⟨rfl, ⟨b', hh5⟩, hc5⟩
    clear qP0 qP1 qP2 qP3 qP4 qP5 qP6 qP7 qP8
    rw [HFE.out, HSE.out, HME.out] at hh5
    have HP' := Lib.hid ((hc5.block _ (blk_lt HP.out) (by unfold RS; omega)).trans HP.out); clear HP; have HP := HP'; clear HP'; have HR' := Lib.hid ((hc5.block _ (blk_lt HR.out) (by unfold RS; omega)).trans HR.out); clear HR; have HR := HR'; clear HR'
    have HH5 := Lib.hid hh5
    have HC5 : Hid (Chg (RS hb gb gt) w3 w5) := Lib.hid (HC4.out.trans hc5 (fun i hi => .inl hi))
    clear hh5 hc5 HC4 HH4
    go_wp2_with fail
    refine (rwhole_no _ _ _ _ _ _ _ _ _ _ w5 HH5.out).mono ?_
    rintro x w6 ⟨rfl, hb6⟩
    have HP' := Lib.hid (bblock hb6 HP.out); clear HP; have HP := HP'; clear HP'; have HR' := Lib.hid (bblock hb6 HR.out); clear HR; have HR := HR'; clear HR'
    have HH6 := Lib.hid (HH5.out.below hb6)
    have HC6 : Hid (Chg (RS hb gb gt) w3 w6) := Lib.hid (HC5.out.call hb6)
    clear hb6 HC5 HH5
    have qR0 := (cell_of_block (k := 0) HR.out rfl).1; have zR0 := (cell_of_block (k := 0) HR.out rfl).2; have qR1 := (cell_of_block (k := 1) HR.out rfl).1; have zR1 := (cell_of_block (k := 1) HR.out rfl).2; have qR2 := (cell_of_block (k := 2) HR.out rfl).1; have zR2 := (cell_of_block (k := 2) HR.out rfl).2; have qR3 := (cell_of_block (k := 3) HR.out rfl).1; have zR3 := (cell_of_block (k := 3) HR.out rfl).2; have qR4 := (cell_of_block (k := 4) HR.out rfl).1; have zR4 := (cell_of_block (k := 4) HR.out rfl).2; have qR5 := (cell_of_block (k := 5) HR.out rfl).1; have zR5 := (cell_of_block (k := 5) HR.out rfl).2; have qR6 := (cell_of_block (k := 6) HR.out rfl).1; have zR6 := (cell_of_block (k := 6) HR.out rfl).2; have qR7 := (cell_of_block (k := 7) HR.out rfl).1; have zR7 := (cell_of_block (k := 7) HR.out rfl).2; have qR8 := (cell_of_block (k := 8) HR.out rfl).1; have zR8 := (cell_of_block (k := 8) HR.out rfl).2
    go_wp2_with fail
    have HZ := stN_all [.int .i64 0, .int .i64 0, .int .i64 0, .int .i64 0, .int .i64 0, .bool false, .bool false, .int .i64 0, .string ⟨#[]⟩] HR.out rfl
    refine bodyPost_ret (v := .tuple #[.agg #[.int .i64 0, .int .i64 0, .int .i64 0, .int .i64 0, .int .i64 0, .bool false, .bool false, .int .i64 0, .string ⟨#[]⟩], .bool false, .int .i64 0]) (res_cell3 Try.results17 (by exact HZ) rfl Try.underlying30 rfl infoPkt) rfl ?_
    have hgR := stN_only [.int .i64 0, .int .i64 0, .int .i64 0, .int .i64 0, .int .i64 0, .bool false, .bool false, .int .i64 0, .string ⟨#[]⟩] 0 (World.grownBy.refl w6 (some (w.heap.size + 1)))
    have hT6 : w6.heap[T]? = some (.cells #[.slice (some ⟨gl, 0, none⟩) 1 c] 75) := (HC6.out.block T (blk_lt HT3.out) (by unfold RS; omega)).trans HT3.out
    have hgl3 := row_lt HROW.out
    have hgl6 := HC6.out.block gl hgl3 (by unfold RS; omega)
    have hz6 := HC6.out.size
    have hR6 := blk_lt HR.out
    have hTl6 := blk_lt hT6
    have hbl := blk_lt HH6.out.h; have hbb := blk_lt HH6.out.b; have hbt := blk_lt HH6.out.t
    have hkw : ∀ k, k < w6.heap.size → k ≠ w.heap.size + 1 → (stN w6 (w.heap.size + 1) 0 [.int .i64 0, .int .i64 0, .int .i64 0, .int .i64 0, .int .i64 0, .bool false, .bool false, .int .i64 0, .string ⟨#[]⟩]).heap[k]? = w6.heap[k]? := fun k h1 h2 => hgR.block k h1 (fun e => h2 (by cases e; rfl))
    refine ⟨rfl, ⟨hb, gb, gt, gl, c, b', ⟨(hkw _ hbl (by omega)).trans HH6.out.h, (hkw _ hbb (by omega)).trans HH6.out.b, (hkw _ hbt (by omega)).trans HH6.out.t, ⟨by omega, by omega, by omega, n4, n5, n6⟩, HH6.out.len⟩, (hkw _ hTl6 (by omega)).trans hT6, ?_, by omega, gn1, gn2, gn3, hTl⟩, ?_⟩
    · have := row_kept HROW.out ((hkw gl (by omega) (by omega)).trans hgl6)
      refine ⟨this.1, ?_⟩
      rcases this.2 with q | ⟨g', cap, cur, e, q1, q2⟩
      · exact .inl q
      · exact .inr ⟨g', cap, cur, e, by omega, q2⟩
    · refine ⟨hgR.os.trans (HC6.out.os.trans HG.out.os), hgR.tape.trans (HC6.out.tape.trans HG.out.tape), hgR.output.trans (HC6.out.output.trans HG.out.output), Nat.le_trans HG.out.size (Nat.le_trans hz6 hgR.size), fun k h1 h2 => ?_⟩
      have := HG.out.size
      exact (hkw k (by omega) (by omega)).trans ((HC6.out.block k (by omega) (by unfold RS; omega)).trans (HG.out.block k h1 h2))
end Go.Proofs.Ytmeldgnjgogacaa.Re
