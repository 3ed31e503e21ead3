/-
  The contract of icmp.Decode.
-/
import Derived.Test.YtloialpcdedekaaDoorIc7
import Derived.Test.YtloialpcdedekaaDoorIcIs
namespace Go.Proofs.YtloialpcdedekaaDoor.Ic
set_option maxRecDepth 100000
open Go.RowKit Go.Proofs.YtloialpcdedekaaDoor.Wire

/-- the two errors of the package, where they lie: two blocks -/
def GlE (W : World) (a0 a1 : Addr) : Prop := Gl W a0 a1 ∧ a0 ≠ a1 ∧ (∃ c t, W.heap[a0.block]? = some (.cells c t (0, 0))) ∧ (∃ c t, W.heap[a1.block]? = some (.cells c t (0, 0))) ∧ 2 ≤ W.heap.size
theorem GlE.below {W W' : World} {a0 a1 : Addr} (h : GlE W a0 a1) (hb : Below W.heap.size W W') : GlE W' a0 a1 := by
  obtain ⟨h1, h2, ⟨c0, t0, h3⟩, ⟨c1, t1, h4⟩, h5⟩ := h
  exact ⟨h1.below hb, h2, ⟨c0, t0, bblock hb h3⟩, ⟨c1, t1, bblock hb h4⟩, Nat.le_trans h5 hb.size⟩
theorem GlE.alloc {W : World} {a0 a1 : Addr} (h : GlE W a0 a1) (o : Obj) : GlE (W.alloc o) a0 a1 := h.below ((Below.refl _ _).alloc (Nat.le_refl _) o)
def tailOf (s : ByteArray) : ByteArray := s.extract 8 s.size
/-- the string is the encoding of a valid message -/
def dcK (s : ByteArray) : Prop := 8 ≤ s.size ∧ MOk (fval s 0) (fval s 1) (fval s 3) (tailOf s).size ∧ (⟨(menc (fval s 0) (fval s 1) (fval s 3) (tailOf s)).toArray⟩ : ByteArray) = s
def mzV : Value := .agg #[.int .i64 0, .int .i64 0, .int .i64 0, .string ⟨#[]⟩]
def dcV (s : ByteArray) : Value := .agg #[.int .i64 (fval s 0), .int .i64 (fval s 1), .int .i64 (fval s 3), .string (tailOf s)]
theorem MOk.known {k c n : Int} {z : Nat} (h : MOk k c n z) : knownB k = true := decide_eq_true h.1
theorem ba_ne {t s : ByteArray} (h : t ≠ s) : (t.toList == s.toList) = false := by
  rw [beq_eq_false_iff_ne, ByteArray.toList_eq, ByteArray.toList_eq]
  intro e
  apply h
  cases t; cases s
  simp at e
  rw [e]
theorem infoMsg : (Tryd.prog.info? 33).map (·.size) = some 4 := by kernel_rfl
def DecPost (s : ByteArray) (w : World) (e : Ending) (w' : World) : Prop := Below w.heap.size w w' ∧ ((dcK s ∧ e = .returned (.tuple #[dcV s, .int .i64 0])) ∨ (¬ dcK s ∧ e = .returned (.tuple #[mzV, .int .i64 80])))
set_option maxHeartbeats 4000000 in
theorem decode_any (s : ByteArray) (hm : s.size ≤ 9223372036854775807) (a0 a1 : Addr) (w : World) (hg : GlE w a0 a1) :
    Calls Tryd.prog 11 #[.string s] w (DecPost s w) := by
  have hg1 := hg.alloc (.cells #[.int .i64 0, .int .i64 0, .int .i64 0, .string ⟨#[]⟩] 33)
  have HR := Lib.hid (read_any s hm a0 a1 _ hg1.1 hg1.2.2.2.2)
  have HG := Lib.hid hg1; clear hg1
  have H2 := Lib.hid (alloc_new w (.cells #[.int .i64 0, .int .i64 0, .int .i64 0, .string ⟨#[]⟩] 33))
  have HB := below_alloc (o := .cells #[.int .i64 0, .int .i64 0, .int .i64 0, .string ⟨#[]⟩] 33) (Below.refl w.heap.size w)
  have htl : (tailOf s).size ≤ 9223372036854775807 := by unfold tailOf; rw [ByteArray.size_extract]; omega
  clear hg
  go_enter Tryd.func11, Tryd.ntmps11
  go_wp2_with fail
  refine HR.out.mono ?_
  rintro e w1 ⟨hb, (⟨h8, hkn, rfl⟩ | ⟨hno, a, ha, rfl⟩)⟩
  · have HK := Lib.hid hkn; have H8 := Lib.hid h8; clear hkn h8
    rw [show s.extract 8 s.size = tailOf s from rfl]
    have hb' := below_alloc (o := .cells #[.int .i64 (fval s 0), .int .i64 (fval s 1), .int .i64 (fval s 3), .string (tailOf s)] 33) hb
    have HG' := Lib.hid (HG.out.below hb')
    have H2' := Lib.hid (bblock hb' H2.out)
    have HM' := Lib.hid (alloc_new w1 (.cells #[.int .i64 (fval s 0), .int .i64 (fval s 1), .int .i64 (fval s 3), .string (tailOf s)] 33))
    have HB' := below_call HB hb'
    clear HG H2 HB hb hb' HR
    have q0 := HG'.out.1.1; have q1 := HG'.out.1.2
    have HN0 := Lib.hid fun W => is_nil a0 W; have HN1 := Lib.hid fun W => is_nil a1 W
    obtain ⟨⟨m0, m1, m2, m3⟩, -⟩ := cells4 HM'.out
    go_upto_region 4 with (first | (go_at_call 30; (with_reducible refine (HN0.out _).mono ?_); rintro e w' ⟨rfl, rfl⟩) | (go_at_call 30; (with_reducible refine (HN1.out _).mono ?_); rintro e w' ⟨rfl, rfl⟩))
    by_cases hok : MOk (fval s 0) (fval s 1) (fval s 3) (tailOf s).size
    · have HE := Lib.hid fun W => encode_ok (fval s 0) (fval s 1) (fval s 3) (tailOf s) W hok
      have HO := Lib.hid hok; clear hok
      have HD : Hid (dcK s ↔ (⟨(menc (fval s 0) (fval s 1) (fval s 3) (tailOf s)).toArray⟩ : ByteArray) = s) := Lib.hid ⟨fun q => q.2.2, fun q => ⟨H8.out, HO.out, q⟩⟩
      have HV : Hid (dcV s = .agg #[.int .i64 (fval s 0), .int .i64 (fval s 1), .int .i64 (fval s 3), .string (tailOf s)]) := Lib.hid rfl
      generalize (⟨(menc (fval s 0) (fval s 1) (fval s 3) (tailOf s)).toArray⟩ : ByteArray) = t at *
      go_wp2_with fail
      refine (HE.out _).mono ?_
      rintro e w3 ⟨rfl, hb⟩
      have H2 := Lib.hid (bblock hb H2'.out)
      have HM := Lib.hid (bblock hb HM'.out)
      have HB3 := below_call HB' hb
      clear m0 m1 m2 m3 hb H2' HM' q0 q1
      have H2' := H2; clear H2
      obtain ⟨⟨m0, m1, m2, m3⟩, -⟩ := cells4 HM.out
      obtain ⟨⟨c0, c1, c2, c3⟩, z0, z1, z2, z3⟩ := cells4 H2'.out
      have l2 := blk_lt H2'.out
      by_cases hts : t = s
      · have HT := Lib.hid hts
        have hbq : (t.toList == s.toList) = true := by rw [hts]; simp
        clear hts
        go_wp2_with fail
        have HZ := cells_eq (b := #[.int .i64 (fval s 0), .int .i64 (fval s 1), .int .i64 (fval s 3), .string (tailOf s)]) (block_setCell (k := 3) (v := .string (tailOf s)) (block_setCell (k := 2) (v := .int .i64 (fval s 3)) (block_setCell (k := 1) (v := .int .i64 (fval s 1)) (block_setCell (k := 0) (v := .int .i64 (fval s 0)) (H2'.out))))) rfl
        refine bodyPost_ret (v := .tuple #[.agg #[.int .i64 (fval s 0), .int .i64 (fval s 1), .int .i64 (fval s 3), .string (tailOf s)], .int .i64 0]) (res_cell_tmp Tryd.results11 (by exact HZ) rfl Tryd.underlying33 rfl infoMsg) rfl ⟨?_, .inl ⟨HD.out.2 HT.out, by rw [HV.out]⟩⟩
        exact Below.setCell (Below.setCell (Below.setCell (Below.setCell HB3 (by simp) _) (by simp) _) (by simp) _) (by simp) _
      · have HT := Lib.hid hts
        have hbq : (t.toList == s.toList) = false := ba_ne hts
        clear hts
        go_wp2_with fail
        have HZ := cells_eq (b := #[.int .i64 0, .int .i64 0, .int .i64 0, .string ⟨#[]⟩]) (block_setCell (k := 3) (v := .string ⟨#[]⟩) (block_setCell (k := 2) (v := .int .i64 0) (block_setCell (k := 1) (v := .int .i64 0) (block_setCell (k := 0) (v := .int .i64 0) (H2'.out))))) rfl
        refine bodyPost_ret (v := .tuple #[.agg #[.int .i64 0, .int .i64 0, .int .i64 0, .string ⟨#[]⟩], .int .i64 80]) (res_cell_tmp Tryd.results11 (by exact HZ) rfl Tryd.underlying33 rfl infoMsg) rfl ⟨?_, .inr ⟨fun q => HT.out (HD.out.1 q), (by rfl)⟩⟩
        exact Below.setCell (Below.setCell (Below.setCell (Below.setCell HB3 (by simp) _) (by simp) _) (by simp) _) (by simp) _
    · have HE := Lib.hid fun W => encode_no (fval s 0) (fval s 1) (fval s 3) (tailOf s) W htl hok
      have HO := Lib.hid hok; clear hok
      go_wp2_with fail
      refine (HE.out _).mono ?_
      rintro e w3 ⟨rfl, hb⟩
      have H2 := Lib.hid (bblock hb H2'.out)
      have HB3 := below_call HB' hb
      clear m0 m1 m2 m3 hb H2' HM' q0 q1
      have H2' := H2; clear H2
      obtain ⟨⟨c0, c1, c2, c3⟩, z0, z1, z2, z3⟩ := cells4 H2'.out
      have l2 := blk_lt H2'.out
      go_wp2_with fail
      have HZ := cells_eq (b := #[.int .i64 0, .int .i64 0, .int .i64 0, .string ⟨#[]⟩]) (block_setCell (k := 3) (v := .string ⟨#[]⟩) (block_setCell (k := 2) (v := .int .i64 0) (block_setCell (k := 1) (v := .int .i64 0) (block_setCell (k := 0) (v := .int .i64 0) (H2'.out))))) rfl
      refine bodyPost_ret (v := .tuple #[.agg #[.int .i64 0, .int .i64 0, .int .i64 0, .string ⟨#[]⟩], .int .i64 80]) (res_cell_tmp Tryd.results11 (by exact HZ) rfl Tryd.underlying33 rfl infoMsg) rfl ⟨?_, .inr ⟨fun q => HO.out q.2.1, (by rfl)⟩⟩
      exact Below.setCell (Below.setCell (Below.setCell (Below.setCell HB3 (by simp) _) (by simp) _) (by simp) _) (by simp) _
  · have HNO := Lib.hid hno
    have hb' := below_alloc (o := .cells #[.int .i64 0, .int .i64 0, .int .i64 0, .string ⟨#[]⟩] 33) hb
    have HG' := Lib.hid (HG.out.below hb')
    have H2' := Lib.hid (bblock hb' H2.out)
    have HB' := below_call HB hb'
    clear HG H2 HB hb hb' HR hno
    have q0 := HG'.out.1.1; have q1 := HG'.out.1.2
    obtain ⟨⟨c0, c1, c2, c3⟩, z0, z1, z2, z3⟩ := cells4 H2'.out
    have l2 := blk_lt H2'.out
    rcases ha with rfl | rfl
    · have HS := Lib.hid fun W => is_same a W
      go_wp2_with (go_at_call 30; refine (HS.out _).mono ?_; rintro e w' ⟨rfl, rfl⟩)
      go_wp2_with fail
      have HZ := cells_eq (b := #[.int .i64 0, .int .i64 0, .int .i64 0, .string ⟨#[]⟩]) (block_setCell (k := 3) (v := .string ⟨#[]⟩) (block_setCell (k := 2) (v := .int .i64 0) (block_setCell (k := 1) (v := .int .i64 0) (block_setCell (k := 0) (v := .int .i64 0) H2'.out)))) rfl
      refine bodyPost_ret (v := .tuple #[.agg #[.int .i64 0, .int .i64 0, .int .i64 0, .string ⟨#[]⟩], .int .i64 80]) (res_cell_tmp Tryd.results11 (by exact HZ) rfl Tryd.underlying33 rfl infoMsg) rfl ⟨?_, .inr ⟨fun q => HNO.out ⟨q.1, q.2.1.known⟩, (by rfl)⟩⟩
      exact Below.setCell (Below.setCell (Below.setCell (Below.setCell HB' (by simp) _) (by simp) _) (by simp) _) (by simp) _
    · have HS := Lib.hid fun W => is_same a W
      have hx := HG'.out.2
      obtain ⟨hne, ⟨cx0, tx0, hx0⟩, ⟨cx1, tx1, hx1⟩, -⟩ := hx
      have HO := Lib.hid (is_other a a0 cx1 cx0 tx1 tx0 _ (fun e => hne e.symm) hx1 hx0)
      clear hx0 hx1
      go_wp2_with (first | (go_at_call 30; (with_reducible refine (HS.out _).mono ?_); rintro e w' ⟨rfl, rfl⟩) | (go_at_call 30; (with_reducible refine HO.out.mono ?_); rintro e w' ⟨rfl, rfl⟩))
      go_wp2_with fail
      have HZ := cells_eq (b := #[.int .i64 0, .int .i64 0, .int .i64 0, .string ⟨#[]⟩]) (block_setCell (k := 3) (v := .string ⟨#[]⟩) (block_setCell (k := 2) (v := .int .i64 0) (block_setCell (k := 1) (v := .int .i64 0) (block_setCell (k := 0) (v := .int .i64 0) H2'.out)))) rfl
      refine bodyPost_ret (v := .tuple #[.agg #[.int .i64 0, .int .i64 0, .int .i64 0, .string ⟨#[]⟩], .int .i64 80]) (res_cell_tmp Tryd.results11 (by exact HZ) rfl Tryd.underlying33 rfl infoMsg) rfl ⟨?_, .inr ⟨fun q => HNO.out ⟨q.1, q.2.1.known⟩, (by rfl)⟩⟩
      exact Below.setCell (Below.setCell (Below.setCell (Below.setCell HB' (by simp) _) (by simp) _) (by simp) _) (by simp) _
end Go.Proofs.YtloialpcdedekaaDoor.Ic
