/-
  The reference of chapter 5: Encode and Decode.
-/
import Derived.Test.YtjdoemmfemogmaaArRef
import Derived.Test.YtjdoemmfemogmaaStore
import Derived.Deep.RegionHeld3
namespace Go.Proofs.Ytjdoemmfemogmaa.Ar
set_option maxRecDepth 100000
open Go.RowKit Go.Proofs.Ytjdoemmfemogmaa.Wire

theorem rput5_any (n : Int) (b : Nat) (w : World) (h1 : 1 ≤ b) (h4 : b ≤ 4) (h0 : 0 ≤ n) (hn : n < 256 ^ b) :
    Calls Try.prog 40 #[.int .i64 n, .int .i64 (b : Int)] w fun e w' => e = .returned (.string ⟨(be b n).toArray⟩) ∧ Below w.heap.size w w' := by
  go_enter Try.func40, Try.ntmps40
  go_wp2_with fail
  refine (rput_ok n b _ h1 h4 h0 hn).mono ?_
  rintro e w1 ⟨rfl, hb⟩
  go_wp2_with fail
  go_ret
  exact ⟨rfl, hb⟩
theorem rencode_no (op f fm t tm : Int) (w : World) (h : ¬ (⟨op, f, fm, t, tm⟩ : Am).ok) :
    Calls Try.prog 15 #[.agg #[.int .i64 op, .int .i64 f, .int .i64 fm, .int .i64 t, .int .i64 tm]] w fun e w' => e = .returned (.tuple #[.string ⟨#[]⟩, .int .i64 50]) ∧ Below w.heap.size w w' := by
  have e1 : Am.okB ⟨op, f, fm, t, tm⟩ = false := by
    cases q : Am.okB ⟨op, f, fm, t, tm⟩ with
    | false => rfl
    | true => exact absurd ((Am.okB_iff _).1 q) h
  clear h
  go_enter Try.func15, Try.ntmps15
  obtain ⟨⟨a0, a1, a2, a3, a4⟩, -⟩ := cells5 (alloc_new w (.cells #[.int .i64 op, .int .i64 f, .int .i64 fm, .int .i64 t, .int .i64 tm] 23))
  go_wp2_with fail
  refine (rvalid_any op f fm t tm _).mono ?_
  rintro e w2 ⟨rfl, hb⟩
  rw [e1]
  clear a0 a1 a2 a3 a4
  go_wp2_with fail
  go_ret2
  exact ⟨rfl, below_call (below_alloc (Below.refl _ _)) hb⟩
set_option maxHeartbeats 8000000 in
theorem rencode_ok (op f fm t tm : Int) (w : World) (h : (⟨op, f, fm, t, tm⟩ : Am).ok) :
    Calls Try.prog 15 #[.agg #[.int .i64 op, .int .i64 f, .int .i64 fm, .int .i64 t, .int .i64 tm]] w fun e w' => e = .returned (.tuple #[.string ⟨(encM ⟨op, f, fm, t, tm⟩).toArray⟩, .int .i64 0]) ∧ Below w.heap.size w w' := by
  have e1 : Am.okB ⟨op, f, fm, t, tm⟩ = true := (Am.okB_iff _).2 h
  have hop : 0 ≤ op ∧ op < 256 := by unfold Am.ok at h; dsimp only at h; omega
  have hf : 0 ≤ f ∧ f < 4294967296 := by unfold Am.ok at h; dsimp only at h; omega
  have hfm : 0 ≤ fm ∧ fm < 65536 := by unfold Am.ok at h; dsimp only at h; omega
  have ht : 0 ≤ t ∧ t < 4294967296 := by unfold Am.ok at h; dsimp only at h; omega
  have htm : 0 ≤ tm ∧ tm < 65536 := by unfold Am.ok at h; dsimp only at h; omega
  clear h
  obtain ⟨S1, hS1⟩ : ∃ s : ByteArray, (⟨(be 1 op).toArray⟩ : ByteArray) = s := ⟨_, rfl⟩
  have hz1 : S1.size = 1 := by rw [← hS1, sz, be_length]
  have HP1 : Hid (∀ W, Calls Try.prog 40 #[.int .i64 op, .int .i64 1] W fun e w' => e = .returned (.string S1) ∧ Below W.heap.size W w') := Lib.hid (fun W => by rw [← hS1]; exact rput5_any op 1 W (by omega) (by omega) (by omega) (by simp; omega))
  obtain ⟨S2, hS2⟩ : ∃ s : ByteArray, (⟨(be 4 f).toArray⟩ : ByteArray) = s := ⟨_, rfl⟩
  have hz2 : S2.size = 4 := by rw [← hS2, sz, be_length]
  have HP2 : Hid (∀ W, Calls Try.prog 40 #[.int .i64 f, .int .i64 4] W fun e w' => e = .returned (.string S2) ∧ Below W.heap.size W w') := Lib.hid (fun W => by rw [← hS2]; exact rput5_any f 4 W (by omega) (by omega) (by omega) (by simp; omega))
  obtain ⟨S3, hS3⟩ : ∃ s : ByteArray, (⟨(be 2 fm).toArray⟩ : ByteArray) = s := ⟨_, rfl⟩
  have hz3 : S3.size = 2 := by rw [← hS3, sz, be_length]
  have HP3 : Hid (∀ W, Calls Try.prog 40 #[.int .i64 fm, .int .i64 2] W fun e w' => e = .returned (.string S3) ∧ Below W.heap.size W w') := Lib.hid (fun W => by rw [← hS3]; exact rput5_any fm 2 W (by omega) (by omega) (by omega) (by simp; omega))
  obtain ⟨S4, hS4⟩ : ∃ s : ByteArray, (⟨(be 4 t).toArray⟩ : ByteArray) = s := ⟨_, rfl⟩
  have hz4 : S4.size = 4 := by rw [← hS4, sz, be_length]
  have HP4 : Hid (∀ W, Calls Try.prog 40 #[.int .i64 t, .int .i64 4] W fun e w' => e = .returned (.string S4) ∧ Below W.heap.size W w') := Lib.hid (fun W => by rw [← hS4]; exact rput5_any t 4 W (by omega) (by omega) (by omega) (by simp; omega))
  obtain ⟨S5, hS5⟩ : ∃ s : ByteArray, (⟨(be 2 tm).toArray⟩ : ByteArray) = s := ⟨_, rfl⟩
  have hz5 : S5.size = 2 := by rw [← hS5, sz, be_length]
  have HP5 : Hid (∀ W, Calls Try.prog 40 #[.int .i64 tm, .int .i64 2] W fun e w' => e = .returned (.string S5) ∧ Below W.heap.size W w') := Lib.hid (fun W => by rw [← hS5]; exact rput5_any tm 2 W (by omega) (by omega) (by omega) (by simp; omega))
  have HS : Hid ((S1 ++ S2 ++ S3 ++ S4 ++ S5 : ByteArray) = ⟨(encM ⟨op, f, fm, t, tm⟩).toArray⟩) := Lib.hid (by rw [← hS1, ← hS2, ← hS3, ← hS4, ← hS5, ba_append, ba_append, ba_append, ba_append]; rfl)
  have n1 : ¬ 9223372036854775807 < S1.size + S2.size := by omega
  have n2 : ¬ 9223372036854775807 < S1.size + S2.size + S3.size := by omega
  have n3 : ¬ 9223372036854775807 < S1.size + S2.size + S3.size + S4.size := by omega
  have n4 : ¬ 9223372036854775807 < S1.size + S2.size + S3.size + S4.size + S5.size := by omega
  clear hS1 hS2 hS3 hS4 hS5 hop hf hfm ht htm hz1 hz2 hz3 hz4 hz5
  have HB := Below.refl w.heap.size w
  have HX := Lib.hid (alloc_new' w (.cells #[.int .i64 op, .int .i64 f, .int .i64 fm, .int .i64 t, .int .i64 tm] 23) (w.heap.size) (by simp))
  have HB' := below_alloc (o := .cells #[.int .i64 op, .int .i64 f, .int .i64 fm, .int .i64 t, .int .i64 tm] 23) HB; clear HB; have HB := HB'; clear HB'
  go_enter Try.func15, Try.ntmps15
  have SX := cells5 HX.out
  obtain ⟨⟨qX0, qX1, qX2, qX3, qX4⟩, zX0, zX1, zX2, zX3, zX4⟩ := SX
  have lt_X := blk_lt HX.out
  go_wp2_with fail
  refine (rvalid_any op f fm t tm _).mono ?_
  rintro e w1 ⟨rfl, hb⟩
  clear qX0 zX0 qX1 zX1 qX2 zX2 qX3 zX3 qX4 zX4
  have HX' := Lib.hid (bblock hb HX.out); clear HX; have HX := HX'; clear HX'
  have HB' := below_call HB hb; clear HB hb; have HB := HB'; clear HB'; have hz1 := HB.size
  have lt_X_1 := blk_lt HX.out
  rw [e1]
  go_upto_region 3 with fail
  have HR := Below.refl w1.heap.size w1
  have gX0 : Hid (w1.cell? ⟨w.heap.size, 0, none⟩ = some (.int .i64 op)) := Lib.hid (cell_of_block (k := 0) HX.out rfl).1
  have gX1 : Hid (w1.cell? ⟨w.heap.size, 1, none⟩ = some (.int .i64 f)) := Lib.hid (cell_of_block (k := 1) HX.out rfl).1
  have gX2 : Hid (w1.cell? ⟨w.heap.size, 2, none⟩ = some (.int .i64 fm)) := Lib.hid (cell_of_block (k := 2) HX.out rfl).1
  have gX3 : Hid (w1.cell? ⟨w.heap.size, 3, none⟩ = some (.int .i64 t)) := Lib.hid (cell_of_block (k := 3) HX.out rfl).1
  have gX4 : Hid (w1.cell? ⟨w.heap.size, 4, none⟩ = some (.int .i64 tm)) := Lib.hid (cell_of_block (k := 4) HX.out rfl).1
  go_region_held3 (fun w' => w'.cell? ⟨w.heap.size, 0, none⟩ = some (.int .i64 op) ∧ w'.cell? ⟨w.heap.size, 1, none⟩ = some (.int .i64 f) ∧ w'.cell? ⟨w.heap.size, 2, none⟩ = some (.int .i64 fm) ∧ w'.cell? ⟨w.heap.size, 3, none⟩ = some (.int .i64 t) ∧ w'.cell? ⟨w.heap.size, 4, none⟩ = some (.int .i64 tm) ∧ Below w1.heap.size w1 w') (first | with_reducible exact ⟨bcell (hRv5.out) gX0.out, bcell (hRv5.out) gX1.out, bcell (hRv5.out) gX2.out, bcell (hRv5.out) gX3.out, bcell (hRv5.out) gX4.out, hRv5.out⟩ | with_reducible exact ⟨bcell (hRv4.out) gX0.out, bcell (hRv4.out) gX1.out, bcell (hRv4.out) gX2.out, bcell (hRv4.out) gX3.out, bcell (hRv4.out) gX4.out, hRv4.out⟩ | with_reducible exact ⟨bcell (hRv3.out) gX0.out, bcell (hRv3.out) gX1.out, bcell (hRv3.out) gX2.out, bcell (hRv3.out) gX3.out, bcell (hRv3.out) gX4.out, hRv3.out⟩ | with_reducible exact ⟨bcell (hRv2.out) gX0.out, bcell (hRv2.out) gX1.out, bcell (hRv2.out) gX2.out, bcell (hRv2.out) gX3.out, bcell (hRv2.out) gX4.out, hRv2.out⟩ | with_reducible exact ⟨bcell (hRv1.out) gX0.out, bcell (hRv1.out) gX1.out, bcell (hRv1.out) gX2.out, bcell (hRv1.out) gX3.out, bcell (hRv1.out) gX4.out, hRv1.out⟩ | exact ⟨gX0.out, gX1.out, gX2.out, gX3.out, gX4.out, HR.drew⟩)
    (first | (go_at_call 40; have _t := hRv4; clear _t; refine (HP5.out _).mono ?_; rintro e v5 ⟨rfl, hbv5⟩; have hRv5 := Lib.hid (below_call hRv4.out hbv5)) | (go_at_call 40; have _t := hRv3; clear _t; refine (HP4.out _).mono ?_; rintro e v4 ⟨rfl, hbv4⟩; have hRv4 := Lib.hid (below_call hRv3.out hbv4)) | (go_at_call 40; have _t := hRv2; clear _t; refine (HP3.out _).mono ?_; rintro e v3 ⟨rfl, hbv3⟩; have hRv3 := Lib.hid (below_call hRv2.out hbv3)) | (go_at_call 40; have _t := hRv1; clear _t; refine (HP2.out _).mono ?_; rintro e v2 ⟨rfl, hbv2⟩; have hRv2 := Lib.hid (below_call hRv1.out hbv2)) | (go_at_call 40; refine (HP1.out _).mono ?_; rintro e v1 ⟨rfl, hbv1⟩; have hRv1 := Lib.hid (below_call HR.drew hbv1)))
  have hb := hRv5.out
  clear HR hRv1 hbv1 hRv2 hbv2 hRv3 hbv3 hRv4 hbv4 hRv5 hbv5 gX0 gX1 gX2 gX3 gX4
  have HX' := Lib.hid (bblock hb HX.out); clear HX; have HX := HX'; clear HX'
  have HB' := below_call HB hb; clear HB hb; have HB := HB'; clear HB'; have hz := HB.size
  go_wp2_with fail
  go_ret2
  exact ⟨by rw [← HS.out]; rfl, HB⟩
theorem rget_some (s : ByteArray) (a b : Nat) (h1 : 1 ≤ b) (h4 : b ≤ 4) (hm : s.size ≤ 9223372036854775807) : ∃ v e : Int, (a + b ≤ s.size → v = num (bytesAt s a b)) ∧ ∀ W, Calls Try.prog 46 #[.string s, .int .i64 (a : Int), .int .i64 (b : Int)] W fun x w' => x = .returned (.tuple #[.int .i64 v, .int .i64 e]) ∧ W = w' := by
  by_cases h : a + b ≤ s.size
  · exact ⟨_, 0, fun _ => rfl, fun W => rget_ok s a b W h1 h4 hm h⟩
  · exact ⟨0, 10, fun q => absurd q h, fun W => rget_no s a b W hm (fun q => h (by omega))⟩
theorem bytes_glue (s : ByteArray) (a k l : Nat) : bytesAt s a k ++ bytesAt s (a + k) l = bytesAt s a (k + l) := by
  unfold bytesAt
  rw [← List.drop_drop, List.take_add]
theorem enc_msgOf (s : ByteArray) (h : s.size = 13) : (⟨(encM (msgOf s)).toArray⟩ : ByteArray) = s := by
  have e : encM (msgOf s) = s.data.toList := by
    unfold encM msgOf
    dsimp only
    have hb : ∀ a k, a + k ≤ 13 → be k (num (bytesAt s a k)) = bytesAt s a k := fun a k hk => by
      have := be_num (bytesAt s a k)
      rw [bytesAt_length s a k (by omega)] at this
      exact this
    rw [hb 0 1 (by omega), hb 1 4 (by omega), hb 5 2 (by omega), hb 7 4 (by omega), hb 11 2 (by omega)]
    have g1 := bytes_glue s 0 1 4; have g2 := bytes_glue s 0 5 2; have g3 := bytes_glue s 0 7 4; have g4 := bytes_glue s 0 11 2
    simp only [Nat.zero_add, Nat.reduceAdd] at g1 g2 g3 g4
    rw [g1, g2, g3, g4]
    unfold bytesAt
    rw [List.drop_zero, List.take_of_length_le (by show s.data.toList.length ≤ 13; rw [Array.length_toList]; exact Nat.le_of_eq h)]
  rw [e]
set_option maxHeartbeats 8000000 in
theorem rdecode_any (s : ByteArray) (w : World) (hm : s.size ≤ 9223372036854775807) :
    Calls Try.prog 20 #[.string s] w fun e w' => e = .returned (decR s) ∧ Below w.heap.size w w' := by
  obtain ⟨g0, r0, hv0, hg0⟩ := rget_some s 0 1 (by omega) (by omega) hm
  have G0 : Hid (∀ W, Calls Try.prog 46 #[.string s, .int .i64 0, .int .i64 1] W fun x w' => x = .returned (.tuple #[.int .i64 g0, .int .i64 r0]) ∧ W = w') := Lib.hid hg0
  obtain ⟨g1, r1, hv1, hg1⟩ := rget_some s 1 4 (by omega) (by omega) hm
  have G1 : Hid (∀ W, Calls Try.prog 46 #[.string s, .int .i64 1, .int .i64 4] W fun x w' => x = .returned (.tuple #[.int .i64 g1, .int .i64 r1]) ∧ W = w') := Lib.hid hg1
  obtain ⟨g2, r2, hv2, hg2⟩ := rget_some s 5 2 (by omega) (by omega) hm
  have G2 : Hid (∀ W, Calls Try.prog 46 #[.string s, .int .i64 5, .int .i64 2] W fun x w' => x = .returned (.tuple #[.int .i64 g2, .int .i64 r2]) ∧ W = w') := Lib.hid hg2
  obtain ⟨g3, r3, hv3, hg3⟩ := rget_some s 7 4 (by omega) (by omega) hm
  have G3 : Hid (∀ W, Calls Try.prog 46 #[.string s, .int .i64 7, .int .i64 4] W fun x w' => x = .returned (.tuple #[.int .i64 g3, .int .i64 r3]) ∧ W = w') := Lib.hid hg3
  obtain ⟨g4, r4, hv4, hg4⟩ := rget_some s 11 2 (by omega) (by omega) hm
  have G4 : Hid (∀ W, Calls Try.prog 46 #[.string s, .int .i64 11, .int .i64 2] W fun x w' => x = .returned (.tuple #[.int .i64 g4, .int .i64 r4]) ∧ W = w') := Lib.hid hg4
  have hmsg : s.size = 13 → (⟨g0, g1, g2, g3, g4⟩ : Am) = msgOf s := fun h => by
    rw [hv0 (by omega), hv1 (by omega), hv2 (by omega), hv3 (by omega), hv4 (by omega)]; rfl
  have HMS := Lib.hid hmsg
  clear hmsg hv0 hv1 hv2 hv3 hv4 hg0 hg1 hg2 hg3 hg4
  have HZ := Lib.hid (block_alloc (alloc_new w (.cells #[.int .i64 0, .int .i64 0, .int .i64 0, .int .i64 0, .int .i64 0] 23)) (.cells #[.int .i64 0, .int .i64 0, .int .i64 0, .int .i64 0, .int .i64 0] 23))
  have HM0 := Lib.hid (alloc_new' (w.alloc (.cells #[.int .i64 0, .int .i64 0, .int .i64 0, .int .i64 0, .int .i64 0] 23)) (.cells #[.int .i64 0, .int .i64 0, .int .i64 0, .int .i64 0, .int .i64 0] 23) (w.heap.size + 1) (by simp))
  have HB0 := Lib.hid (below_alloc (o := .cells #[.int .i64 0, .int .i64 0, .int .i64 0, .int .i64 0, .int .i64 0] 23) (below_alloc (o := .cells #[.int .i64 0, .int .i64 0, .int .i64 0, .int .i64 0, .int .i64 0] 23) (Below.refl w.heap.size w)))
  obtain ⟨x, hx⟩ : ∃ x, w.heap.size = x := ⟨_, rfl⟩
  rw [hx] at HZ HM0
  have HXE := Lib.hid hx
  clear hx
  go_enter Try.func20, Try.ntmps20
  go_upto_region 2 with fail
  rw [HXE.out]
  generalize (w.alloc (.cells #[.int .i64 0, .int .i64 0, .int .i64 0, .int .i64 0, .int .i64 0] 23)).alloc (.cells #[.int .i64 0, .int .i64 0, .int .i64 0, .int .i64 0, .int .i64 0] 23) = w0 at *
  obtain ⟨⟨m0, m1, m2, m3, m4⟩, z0, z1, z2, z3, z4⟩ := cells5 HM0.out
  go_wp2_with fail
  refine (G0.out _).mono ?_
  rintro e w' ⟨rfl, rfl⟩
  go_upto_region 3 with fail
  have HM1 := Lib.hid (cells_eq (b := #[.int .i64 g0, .int .i64 0, .int .i64 0, .int .i64 0, .int .i64 0]) (block_setCell (k := 0) (v := .int .i64 g0) HM0.out) (by simp))
  have HZ' := Lib.hid (block_set_other (a := ⟨x + 1, 0, none⟩) (u := .int .i64 g0) HZ.out (by show x + 1 ≠ x; omega)); clear HZ; have HZ := HZ'; clear HZ'
  have HB1 := Lib.hid (HB0.out.setCell (p := ⟨x + 1, 0, none⟩) (by have := HXE.out; show w.heap.size ≤ x + 1; omega) (.int .i64 g0))
  clear m0 m1 m2 m3 m4 z0 z1 z2 z3 z4 HM0 HB0 G0
  generalize World.setCell w0 ⟨x + 1, 0, none⟩ (.int .i64 g0) = w1 at *
  obtain ⟨⟨m0, m1, m2, m3, m4⟩, z0, z1, z2, z3, z4⟩ := cells5 HM1.out
  go_wp2_with fail
  refine (G1.out _).mono ?_
  rintro e w' ⟨rfl, rfl⟩
  go_upto_region 4 with fail
  have HM2 := Lib.hid (cells_eq (b := #[.int .i64 g0, .int .i64 g1, .int .i64 0, .int .i64 0, .int .i64 0]) (block_setCell (k := 1) (v := .int .i64 g1) HM1.out) (by simp))
  have HZ' := Lib.hid (block_set_other (a := ⟨x + 1, 1, none⟩) (u := .int .i64 g1) HZ.out (by show x + 1 ≠ x; omega)); clear HZ; have HZ := HZ'; clear HZ'
  have HB2 := Lib.hid (HB1.out.setCell (p := ⟨x + 1, 1, none⟩) (by have := HXE.out; show w.heap.size ≤ x + 1; omega) (.int .i64 g1))
  clear m0 m1 m2 m3 m4 z0 z1 z2 z3 z4 HM1 HB1 G1
  generalize World.setCell w1 ⟨x + 1, 1, none⟩ (.int .i64 g1) = w2 at *
  obtain ⟨⟨m0, m1, m2, m3, m4⟩, z0, z1, z2, z3, z4⟩ := cells5 HM2.out
  go_wp2_with fail
  refine (G2.out _).mono ?_
  rintro e w' ⟨rfl, rfl⟩
  go_upto_region 5 with fail
  have HM3 := Lib.hid (cells_eq (b := #[.int .i64 g0, .int .i64 g1, .int .i64 g2, .int .i64 0, .int .i64 0]) (block_setCell (k := 2) (v := .int .i64 g2) HM2.out) (by simp))
  have HZ' := Lib.hid (block_set_other (a := ⟨x + 1, 2, none⟩) (u := .int .i64 g2) HZ.out (by show x + 1 ≠ x; omega)); clear HZ; have HZ := HZ'; clear HZ'
  have HB3 := Lib.hid (HB2.out.setCell (p := ⟨x + 1, 2, none⟩) (by have := HXE.out; show w.heap.size ≤ x + 1; omega) (.int .i64 g2))
  clear m0 m1 m2 m3 m4 z0 z1 z2 z3 z4 HM2 HB2 G2
  generalize World.setCell w2 ⟨x + 1, 2, none⟩ (.int .i64 g2) = w3 at *
  obtain ⟨⟨m0, m1, m2, m3, m4⟩, z0, z1, z2, z3, z4⟩ := cells5 HM3.out
  go_wp2_with fail
  refine (G3.out _).mono ?_
  rintro e w' ⟨rfl, rfl⟩
  go_upto_region 6 with fail
  have HM4 := Lib.hid (cells_eq (b := #[.int .i64 g0, .int .i64 g1, .int .i64 g2, .int .i64 g3, .int .i64 0]) (block_setCell (k := 3) (v := .int .i64 g3) HM3.out) (by simp))
  have HZ' := Lib.hid (block_set_other (a := ⟨x + 1, 3, none⟩) (u := .int .i64 g3) HZ.out (by show x + 1 ≠ x; omega)); clear HZ; have HZ := HZ'; clear HZ'
  have HB4 := Lib.hid (HB3.out.setCell (p := ⟨x + 1, 3, none⟩) (by have := HXE.out; show w.heap.size ≤ x + 1; omega) (.int .i64 g3))
  clear m0 m1 m2 m3 m4 z0 z1 z2 z3 z4 HM3 HB3 G3
  generalize World.setCell w3 ⟨x + 1, 3, none⟩ (.int .i64 g3) = w4 at *
  obtain ⟨⟨m0, m1, m2, m3, m4⟩, z0, z1, z2, z3, z4⟩ := cells5 HM4.out
  go_wp2_with fail
  refine (G4.out _).mono ?_
  rintro e w' ⟨rfl, rfl⟩
  go_upto_region 7 with fail
  have HM5 := Lib.hid (cells_eq (b := #[.int .i64 g0, .int .i64 g1, .int .i64 g2, .int .i64 g3, .int .i64 g4]) (block_setCell (k := 4) (v := .int .i64 g4) HM4.out) (by simp))
  have HZ' := Lib.hid (block_set_other (a := ⟨x + 1, 4, none⟩) (u := .int .i64 g4) HZ.out (by show x + 1 ≠ x; omega)); clear HZ; have HZ := HZ'; clear HZ'
  have HB5 := Lib.hid (HB4.out.setCell (p := ⟨x + 1, 4, none⟩) (by have := HXE.out; show w.heap.size ≤ x + 1; omega) (.int .i64 g4))
  clear m0 m1 m2 m3 m4 z0 z1 z2 z3 z4 HM4 HB4 G4
  generalize World.setCell w4 ⟨x + 1, 4, none⟩ (.int .i64 g4) = w5 at *
  obtain ⟨⟨m0, m1, m2, m3, m4⟩, -⟩ := cells5 HM5.out
  by_cases hok : (⟨g0, g1, g2, g3, g4⟩ : Am).ok
  case neg =>
    have HD : Hid (decR s = .tuple #[.agg #[.int .i64 0, .int .i64 0, .int .i64 0, .int .i64 0, .int .i64 0], .int .i64 50]) := Lib.hid (by
      unfold decR
      rw [if_neg]
      rintro ⟨q1, q2⟩
      rw [← HMS.out q1] at q2
      exact hok ((Am.okB_iff _).1 q2))
    go_wp2_with fail
    refine (rencode_no g0 g1 g2 g3 g4 _ hok).mono ?_
    rintro e w7 ⟨rfl, hb⟩
    have HZ7 := Lib.hid (bblock hb HZ.out); have HB7 := Lib.hid (below_call HB5.out hb)
    clear hb m0 m1 m2 m3 m4 hok
    obtain ⟨⟨z0, z1, z2, z3, z4⟩, f0, f1, f2, f3, f4⟩ := cells5 HZ7.out
    · go_wp2_with fail
      have HR := Lib.hid (stN_all [.int .i64 0, .int .i64 0, .int .i64 0, .int .i64 0, .int .i64 0] HZ7.out rfl)
      refine bodyPost_ret (v := .tuple #[.agg #[.int .i64 0, .int .i64 0, .int .i64 0, .int .i64 0, .int .i64 0], .int .i64 50]) (res_cell_tmp Try.results20 (by exact HR.out) rfl Try.underlying23 rfl infoMsg) rfl ?_
      exact ⟨by rw [HD.out], stN_below (B := x) (by have := HXE.out; omega) [.int .i64 0, .int .i64 0, .int .i64 0, .int .i64 0, .int .i64 0] _ 0 HB7.out⟩
  case pos =>
    go_wp2_with fail
    refine (rencode_ok g0 g1 g2 g3 g4 _ hok).mono ?_
    rintro e w7 ⟨rfl, hb⟩
    have HZ7 := Lib.hid (bblock hb HZ.out); have HB7 := Lib.hid (below_call HB5.out hb); have HM7 := Lib.hid (bblock hb HM5.out)
    clear hb m0 m1 m2 m3 m4
    obtain ⟨st, hst⟩ : ∃ st : ByteArray, (⟨(encM ⟨g0, g1, g2, g3, g4⟩).toArray⟩ : ByteArray) = st := ⟨_, rfl⟩
    have hsz : st.size = 13 := by rw [← hst, sz, encM_len]
    rw [hst]
    obtain ⟨⟨z0, z1, z2, z3, z4⟩, f0, f1, f2, f3, f4⟩ := cells5 HZ7.out
    by_cases hse : st = s
    · have HD : Hid (decR s = .tuple #[.agg #[.int .i64 g0, .int .i64 g1, .int .i64 g2, .int .i64 g3, .int .i64 g4], .int .i64 0]) := Lib.hid (by
        have h13 : s.size = 13 := by rw [← hse]; exact hsz
        have e := HMS.out h13
        unfold decR
        rw [if_pos ⟨h13, by rw [← e]; exact (Am.okB_iff _).2 hok⟩]
        have e0 := congrArg Am.op e; have e1 := congrArg Am.f e; have e2 := congrArg Am.fm e; have e3 := congrArg Am.t e; have e4 := congrArg Am.tm e
        unfold msgOf at e0 e1 e2 e3 e4
        dsimp only at e0 e1 e2 e3 e4
        rw [e0, e1, e2, e3, e4])
      subst hse
      clear hst hsz hok
      obtain ⟨⟨m0, m1, m2, m3, m4⟩, -⟩ := cells5 HM7.out
      go_wp2_with fail
      have HR := Lib.hid (stN_all [.int .i64 g0, .int .i64 g1, .int .i64 g2, .int .i64 g3, .int .i64 g4] HZ7.out rfl)
      refine bodyPost_ret (v := .tuple #[.agg #[.int .i64 g0, .int .i64 g1, .int .i64 g2, .int .i64 g3, .int .i64 g4], .int .i64 0]) (res_cell_tmp Try.results20 (by exact HR.out) rfl Try.underlying23 rfl infoMsg) rfl ?_
      exact ⟨by rw [HD.out], stN_below (B := x) (by have := HXE.out; omega) [.int .i64 g0, .int .i64 g1, .int .i64 g2, .int .i64 g3, .int .i64 g4] _ 0 HB7.out⟩
    · have HD : Hid (decR s = .tuple #[.agg #[.int .i64 0, .int .i64 0, .int .i64 0, .int .i64 0, .int .i64 0], .int .i64 50]) := Lib.hid (by
        unfold decR
        rw [if_neg]
        rintro ⟨q1, -⟩
        apply hse
        rw [← hst, HMS.out q1]
        exact enc_msgOf s q1)
      have hne : (st.toList == s.toList) = false := by
        rw [beq_eq_false_iff_ne]
        intro e
        apply hse
        rw [ByteArray.toList_eq, ByteArray.toList_eq] at e
        exact ByteArray.ext (Array.ext' e)
      clear hst hsz hok hse
      go_wp2_with fail
      have HR := Lib.hid (stN_all [.int .i64 0, .int .i64 0, .int .i64 0, .int .i64 0, .int .i64 0] HZ7.out rfl)
      refine bodyPost_ret (v := .tuple #[.agg #[.int .i64 0, .int .i64 0, .int .i64 0, .int .i64 0, .int .i64 0], .int .i64 50]) (res_cell_tmp Try.results20 (by exact HR.out) rfl Try.underlying23 rfl infoMsg) rfl ?_
      exact ⟨by rw [HD.out], stN_below (B := x) (by have := HXE.out; omega) [.int .i64 0, .int .i64 0, .int .i64 0, .int .i64 0, .int .i64 0] _ 0 HB7.out⟩
end Go.Proofs.Ytjdoemmfemogmaa.Ar
