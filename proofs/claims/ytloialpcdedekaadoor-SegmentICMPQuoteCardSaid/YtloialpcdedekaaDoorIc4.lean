/-
  The contract of icmp.Encode.
-/
import Derived.Test.YtloialpcdedekaaDoorIc3
import Derived.Test.YtloialpcdedekaaDoorCheck
namespace Go.Proofs.YtloialpcdedekaaDoor.Ic
set_option maxRecDepth 100000
open Go.RowKit Go.Proofs.YtloialpcdedekaaDoor.Wire

/-- the bytes of a message with a checksum field -/
def mbytes (k c n : Int) (s : ByteArray) (sum : Int) : List UInt8 := pes [(k, 1), (c, 1), (sum, 2), (n, 4)] ++ s.data.toList
def msum (k c n : Int) (s : ByteArray) : Int := csum ⟨(mbytes k c n s 0).toArray⟩
def menc (k c n : Int) (s : ByteArray) : List UInt8 := mbytes k c n s (msum k c n s)
theorem pes8 (a b c d : Int) : (pes [(a, 1), (b, 1), (c, 2), (d, 4)]).length = 8 := by simp [pes, be_length]
theorem csum_bd' (l : List UInt8) : 0 ≤ csum ⟨l.toArray⟩ ∧ csum ⟨l.toArray⟩ ≤ 65535 := by
  unfold csum
  have h0 : 0 ≤ wsum ⟨l.toArray⟩ := (total_bd _ _).1
  unfold fold; split <;> omega
theorem okp (k c n sm : Int) (z : Nat) (h : MOk k c n z) (h0 : 0 ≤ sm) (h1 : sm < 65536) : ∀ x ∈ [(k, (1 : Int)), (c, 1), (sm, 2), (n, 4)], (1 ≤ x.2 ∧ x.2 ≤ 4) ∧ 0 ≤ x.1 ∧ x.1 < 256 ^ x.2.toNat := by
  obtain ⟨hk, hs, -⟩ := h
  have hcn : (0 ≤ c ∧ c ≤ 4) ∧ 0 ≤ n ∧ n ≤ 4294967295 := by
    unfold Suits at hs
    split at hs
    · omega
    · split at hs
      · omega
      · split at hs <;> omega
  intro x hx
  simp only [List.mem_cons, List.not_mem_nil, or_false] at hx
  rcases hx with rfl | rfl | rfl | rfl
  · exact ⟨by omega, by omega, by show k < 256; omega⟩
  · exact ⟨by omega, by omega, by show c < 256; omega⟩
  · exact ⟨by omega, by omega, by show sm < 65536; omega⟩
  · exact ⟨by omega, by omega, by show n < 4294967296; omega⟩
theorem ba_left (l : List UInt8) (s : ByteArray) : (⟨l.toArray⟩ : ByteArray) ++ s = ⟨(l ++ s.data.toList).toArray⟩ := by
  conv => lhs; rw [ba_self s]
  rw [ba_append]
theorem msum_eq (k c n : Int) (s : ByteArray) : csum (⟨(pes [(k, 1), (c, 1), (0, 2), (n, 4)]).toArray⟩ ++ s) = msum k c n s := by rw [ba_left]; rfl
theorem menc_eq (k c n : Int) (s : ByteArray) : (⟨(pes [(k, 1), (c, 1), (msum k c n s, 2), (n, 4)]).toArray⟩ : ByteArray) ++ s = ⟨(menc k c n s).toArray⟩ := by rw [ba_left]; rfl
set_option maxHeartbeats 4000000 in
theorem encode_no (k c n : Int) (s : ByteArray) (w : World) (hs : s.size ≤ 9223372036854775807) (h : ¬ MOk k c n s.size) :
    Calls Tryd.prog 10 #[.agg #[.int .i64 k, .int .i64 c, .int .i64 n, .string s]] w fun e w' => e = .returned (.tuple #[.string ⟨#[]⟩, .int .i64 80]) ∧ Below w.heap.size w w' := by
  have HV : Hid (∀ W, Calls Tryd.prog 27 #[.agg #[.int .i64 k, .int .i64 c, .int .i64 n, .string s]] W fun e w' => e = .returned (.bool false) ∧ Below W.heap.size W w') := Lib.hid fun W => (show mokB k c n s.size = false from decide_eq_false h) ▸ valid_any k c n s W hs
  have Hm := Lib.hid (alloc_new w (.cells #[.int .i64 k, .int .i64 c, .int .i64 n, .string s] 33))
  have HB := below_alloc (o := .cells #[.int .i64 k, .int .i64 c, .int .i64 n, .string s] 33) (Below.refl w.heap.size w)
  go_enter Tryd.func10, Tryd.ntmps10
  go_wp2_with fail
  refine (HV.out _).mono ?_
  rintro e w1 ⟨rfl, hb⟩
  go_wp2_with fail
  go_ret2
  exact ⟨rfl, below_call HB hb⟩
set_option maxHeartbeats 4000000 in
theorem encode_ok (k c n : Int) (s : ByteArray) (w : World) (h : MOk k c n s.size) :
    Calls Tryd.prog 10 #[.agg #[.int .i64 k, .int .i64 c, .int .i64 n, .string s]] w fun e w' => e = .returned (.tuple #[.string ⟨(menc k c n s).toArray⟩, .int .i64 0]) ∧ Below w.heap.size w w' := by
  have hs : s.size ≤ 500 := by have := h.2.2; unfold mostOf at this; split at this <;> (try split at this) <;> omega
  have HV : Hid (∀ W, Calls Tryd.prog 27 #[.agg #[.int .i64 k, .int .i64 c, .int .i64 n, .string s]] W fun e w' => e = .returned (.bool true) ∧ Below W.heap.size W w') := Lib.hid fun W => (show mokB k c n s.size = true from decide_eq_true h) ▸ valid_any k c n s W (by omega)
  have Hm := Lib.hid (alloc_new w (.cells #[.int .i64 k, .int .i64 c, .int .i64 n, .string s] 33))
  have HB := below_alloc (o := .cells #[.int .i64 k, .int .i64 c, .int .i64 n, .string s] 33) (Below.refl w.heap.size w)
  go_enter Tryd.func10, Tryd.ntmps10
  go_wp2_with fail
  refine (HV.out _).mono ?_
  rintro e w1 ⟨rfl, hb⟩
  go_upto_region 3 with fail
  have Hm' := Lib.hid (bblock hb Hm.out); clear Hm; have Hm := Hm'; clear Hm'
  have HB' := below_call HB hb; clear HB hb; have HB := HB'; clear HB'; have hz := HB.size
  obtain ⟨⟨p0, p1, p2, p3⟩, -⟩ := cells4 Hm.out
  have g0 := Lib.hid p0; have g1 := Lib.hid p1; have g2 := Lib.hid p2; clear p0 p1 p2 p3
  go_cut [4, 5, 6] (fun s4 s5 s6 wz => ∃ (A B C : Nat), s4 = .pointer (some ⟨A, 0, none⟩) ∧ s5 = .pointer (some ⟨B, 0, none⟩) ∧ s6 = .pointer (some ⟨C, 0, none⟩) ∧ wz.heap[A]? = some (.cells #[.int .i64 k, .int .i64 1] 61 (0, 0)) ∧ wz.heap[B]? = some (.cells #[.int .i64 c, .int .i64 1] 61 (0, 0)) ∧ wz.heap[C]? = some (.cells #[.int .i64 n, .int .i64 4] 61 (0, 0)) ∧ Below w1.heap.size w1 wz)
  case first =>
    have HR := (Below.refl w1.heap.size w1).drew
    go_region_held3 (fun w' => w'.cell? ⟨w.heap.size, 0, none⟩ = some (.int .i64 k) ∧ w'.cell? ⟨w.heap.size, 1, none⟩ = some (.int .i64 c) ∧ w'.cell? ⟨w.heap.size, 2, none⟩ = some (.int .i64 n)) (first | exact ⟨g0.out, g1.out, g2.out⟩ | exact ⟨cell_alloc' _ (g0.out), cell_alloc' _ (g1.out), cell_alloc' _ (g2.out)⟩ | exact ⟨cell_alloc' _ (cell_alloc' _ (g0.out)), cell_alloc' _ (cell_alloc' _ (g1.out)), cell_alloc' _ (cell_alloc' _ (g2.out))⟩ | exact ⟨cell_alloc' _ (cell_alloc' _ (cell_alloc' _ (g0.out))), cell_alloc' _ (cell_alloc' _ (cell_alloc' _ (g1.out))), cell_alloc' _ (cell_alloc' _ (cell_alloc' _ (g2.out)))⟩) (fail)
    --CUT
    all_goals
      go_wp2_with fail
      go_meet
      refine ⟨_, _, _, rfl, rfl, rfl, ?_, ?_, ?_, (((HR.alloc (Nat.le_refl _) _).alloc (by simp) _).alloc (by simp; omega) _)⟩
      all_goals first | exact alloc_new' _ _ _ (by simp) | exact block_alloc (alloc_new' _ _ _ (by simp)) _ | exact block_alloc (block_alloc (alloc_new _ _) _) _
  case rest =>
    obtain ⟨A, B, C, rfl, rfl, rfl, ha, hbb, hc, hb⟩ := hcut
    clear g0 g1 g2
    have Hm' := Lib.hid (bblock hb Hm.out); clear Hm; have Hm := Hm'; clear Hm'
    have HB' := below_call HB hb; clear HB hb; have HB := HB'; clear HB'; have hz := HB.size
    have Ha := Lib.hid ha; have Hb := Lib.hid hbb; have Hc := Lib.hid hc; clear ha hbb hc
    have HP : Hid (∀ (sm : Int), 0 ≤ sm → sm < 65536 → ∀ W g, W.heap[g]? = some (.cells #[.int .i64 k, .int .i64 1, .int .i64 c, .int .i64 1, .int .i64 sm, .int .i64 2, .int .i64 n, .int .i64 4] 61 (0, 0)) → Calls Tryd.prog 28 #[.slice (some ⟨g, 0, none⟩) 4 4] W fun e w' => e = .returned (.string ⟨(pes [(k, 1), (c, 1), (sm, 2), (n, 4)]).toArray⟩) ∧ Below W.heap.size W w') := Lib.hid fun sm h0 h1 W g hg => put_any g 4 4 [(k, 1), (c, 1), (sm, 2), (n, 4)] W rfl (by omega) (okp k c n sm s.size h h0 h1) hg
    have hl0 : (pes [(k, 1), (c, 1), (0, 2), (n, 4)]).length = 8 := pes8 _ _ _ _
    have hl1 : (pes [(k, 1), (c, 1), ((msum k c n s), 2), (n, 4)]).length = 8 := pes8 _ _ _ _
    have HC : Hid (∀ W, Calls Tryd.prog 21 #[.string (⟨(pes [(k, 1), (c, 1), (0, 2), (n, 4)]).toArray⟩ ++ s)] W fun e w' => e = .returned (.int .i64 (msum k c n s)) ∧ Below W.heap.size W w') := Lib.hid fun W => by rw [← msum_eq]; exact checksum_any _ (by rw [ByteArray.size_append, sz, hl0]; omega) W
    have HP0 := Lib.hid fun W g hg => HP.out 0 (by omega) (by omega) W g hg
    have hms := csum_bd' (mbytes k c n s 0)
    have HP1 := Lib.hid fun W g hg => HP.out (msum k c n s) hms.1 (by unfold msum; omega) W g hg
    have HF : Hid ((⟨(pes [(k, 1), (c, 1), ((msum k c n s), 2), (n, 4)]).toArray⟩ : ByteArray) ++ s = ⟨(menc k c n s).toArray⟩) := Lib.hid (menc_eq k c n s)
    clear hms HP
    generalize pes [(k, 1), (c, 1), (0, 2), (n, 4)] = P0 at *; generalize pes [(k, 1), (c, 1), ((msum k c n s), 2), (n, 4)] = P1 at *; generalize msum k c n s = ms at *
    have z0 : ¬ 9223372036854775807 < P0.length + s.size := by omega
    have z1 : ¬ 9223372036854775807 < P1.length + s.size := by omega
    clear hl0 hl1
    go_upto_region 4 with fail
    have HR := Below.refl wc.heap.size wc
    have gm3 : Hid (wc.cell? ⟨w.heap.size, 3, none⟩ = some (.string s)) := Lib.hid (cell_of_block (k := 3) Hm.out rfl).1
    have ga0 : Hid (wc.cell? ⟨A, 0, none⟩ = some (.int .i64 k)) := Lib.hid (cell_of_block (k := 0) Ha.out rfl).1
    have ga1 : Hid (wc.cell? ⟨A, 1, none⟩ = some (.int .i64 1)) := Lib.hid (cell_of_block (k := 1) Ha.out rfl).1
    have gb0 : Hid (wc.cell? ⟨B, 0, none⟩ = some (.int .i64 c)) := Lib.hid (cell_of_block (k := 0) Hb.out rfl).1
    have gb1 : Hid (wc.cell? ⟨B, 1, none⟩ = some (.int .i64 1)) := Lib.hid (cell_of_block (k := 1) Hb.out rfl).1
    have gc0 : Hid (wc.cell? ⟨C, 0, none⟩ = some (.int .i64 n)) := Lib.hid (cell_of_block (k := 0) Hc.out rfl).1
    have gc1 : Hid (wc.cell? ⟨C, 1, none⟩ = some (.int .i64 4)) := Lib.hid (cell_of_block (k := 1) Hc.out rfl).1
    go_region_held3 (fun w' => w'.cell? ⟨w.heap.size, 3, none⟩ = some (.string s) ∧ w'.cell? ⟨A, 0, none⟩ = some (.int .i64 k) ∧ w'.cell? ⟨A, 1, none⟩ = some (.int .i64 1) ∧ w'.cell? ⟨B, 0, none⟩ = some (.int .i64 c) ∧ w'.cell? ⟨B, 1, none⟩ = some (.int .i64 1) ∧ w'.cell? ⟨C, 0, none⟩ = some (.int .i64 n) ∧ w'.cell? ⟨C, 1, none⟩ = some (.int .i64 4) ∧ Below wc.heap.size wc w') (first | with_reducible exact ⟨bcell hRv2.out gm3.out, bcell hRv2.out ga0.out, bcell hRv2.out ga1.out, bcell hRv2.out gb0.out, bcell hRv2.out gb1.out, bcell hRv2.out gc0.out, bcell hRv2.out gc1.out, hRv2.out⟩ | with_reducible exact ⟨bcell hRv1.out gm3.out, bcell hRv1.out ga0.out, bcell hRv1.out ga1.out, bcell hRv1.out gb0.out, bcell hRv1.out gb1.out, bcell hRv1.out gc0.out, bcell hRv1.out gc1.out, hRv1.out⟩ | exact ⟨cell_alloc' _ (gm3.out), cell_alloc' _ (ga0.out), cell_alloc' _ (ga1.out), cell_alloc' _ (gb0.out), cell_alloc' _ (gb1.out), cell_alloc' _ (gc0.out), cell_alloc' _ (gc1.out), below_alloc (HR.drew)⟩ | exact ⟨gm3.out, ga0.out, ga1.out, gb0.out, gb1.out, gc0.out, gc1.out, HR.drew⟩)
      (first | (go_at_call 21; have _t := hRv1; clear _t; refine (HC.out _).mono ?_; rintro e v2 ⟨rfl, hbv2⟩; have hRv2 := Lib.hid (below_call (hRv1.out) hbv2)) | (go_at_call 28; refine (HP0.out _ _ (by exact alloc_new _ _)).mono ?_; rintro e v1 ⟨rfl, hbv1⟩; have hRv1 := Lib.hid (below_call (below_alloc (HR.drew)) hbv1)))
    have hb := hRv2.out
    clear HR hRv1 hbv1 hRv2 hbv2 gm3 ga0 ga1 gb0 gb1 gc0 gc1
    have Hm' := Lib.hid (bblock hb Hm.out); clear Hm; have Hm := Hm'; clear Hm'
    have Ha' := Lib.hid (bblock hb Ha.out); clear Ha; have Ha := Ha'; clear Ha'
    have Hb' := Lib.hid (bblock hb Hb.out); clear Hb; have Hb := Hb'; clear Hb'
    have Hc' := Lib.hid (bblock hb Hc.out); clear Hc; have Hc := Hc'; clear Hc'
    have HB' := below_call HB hb; clear HB hb; have HB := HB'; clear HB'; have hz := HB.size
    go_upto_region 5 with fail
    have HR := Below.refl v2.heap.size v2
    have gm3 : Hid (v2.cell? ⟨w.heap.size, 3, none⟩ = some (.string s)) := Lib.hid (cell_of_block (k := 3) Hm.out rfl).1
    have ga0 : Hid (v2.cell? ⟨A, 0, none⟩ = some (.int .i64 k)) := Lib.hid (cell_of_block (k := 0) Ha.out rfl).1
    have ga1 : Hid (v2.cell? ⟨A, 1, none⟩ = some (.int .i64 1)) := Lib.hid (cell_of_block (k := 1) Ha.out rfl).1
    have gb0 : Hid (v2.cell? ⟨B, 0, none⟩ = some (.int .i64 c)) := Lib.hid (cell_of_block (k := 0) Hb.out rfl).1
    have gb1 : Hid (v2.cell? ⟨B, 1, none⟩ = some (.int .i64 1)) := Lib.hid (cell_of_block (k := 1) Hb.out rfl).1
    have gc0 : Hid (v2.cell? ⟨C, 0, none⟩ = some (.int .i64 n)) := Lib.hid (cell_of_block (k := 0) Hc.out rfl).1
    have gc1 : Hid (v2.cell? ⟨C, 1, none⟩ = some (.int .i64 4)) := Lib.hid (cell_of_block (k := 1) Hc.out rfl).1
    go_region_held3 (fun w' => w'.cell? ⟨w.heap.size, 3, none⟩ = some (.string s) ∧ w'.cell? ⟨A, 0, none⟩ = some (.int .i64 k) ∧ w'.cell? ⟨A, 1, none⟩ = some (.int .i64 1) ∧ w'.cell? ⟨B, 0, none⟩ = some (.int .i64 c) ∧ w'.cell? ⟨B, 1, none⟩ = some (.int .i64 1) ∧ w'.cell? ⟨C, 0, none⟩ = some (.int .i64 n) ∧ w'.cell? ⟨C, 1, none⟩ = some (.int .i64 4) ∧ Below v2.heap.size v2 w') (first | with_reducible exact ⟨bcell hRx1.out gm3.out, bcell hRx1.out ga0.out, bcell hRx1.out ga1.out, bcell hRx1.out gb0.out, bcell hRx1.out gb1.out, bcell hRx1.out gc0.out, bcell hRx1.out gc1.out, hRx1.out⟩ | exact ⟨cell_alloc' _ (gm3.out), cell_alloc' _ (ga0.out), cell_alloc' _ (ga1.out), cell_alloc' _ (gb0.out), cell_alloc' _ (gb1.out), cell_alloc' _ (gc0.out), cell_alloc' _ (gc1.out), below_alloc (HR.drew)⟩ | exact ⟨gm3.out, ga0.out, ga1.out, gb0.out, gb1.out, gc0.out, gc1.out, HR.drew⟩)
      ((go_at_call 28; refine (HP1.out _ _ (by exact alloc_new _ _)).mono ?_; rintro e x1 ⟨rfl, hbx1⟩; have hRx1 := Lib.hid (below_call (below_alloc (HR.drew)) hbx1)))
    have hb := hRx1.out
    clear HR hRx1 hbx1 gm3 ga0 ga1 gb0 gb1 gc0 gc1
    have Hm' := Lib.hid (bblock hb Hm.out); clear Hm; have Hm := Hm'; clear Hm'
    have Ha' := Lib.hid (bblock hb Ha.out); clear Ha; have Ha := Ha'; clear Ha'
    have Hb' := Lib.hid (bblock hb Hb.out); clear Hb; have Hb := Hb'; clear Hb'
    have Hc' := Lib.hid (bblock hb Hc.out); clear Hc; have Hc := Hc'; clear Hc'
    have HB' := below_call HB hb; clear HB hb; have HB := HB'; clear HB'; have hz := HB.size
    go_wp2_with fail
    go_ret2
    exact ⟨by rw [HF.out]; rfl, HB⟩
end Go.Proofs.YtloialpcdedekaaDoor.Ic
