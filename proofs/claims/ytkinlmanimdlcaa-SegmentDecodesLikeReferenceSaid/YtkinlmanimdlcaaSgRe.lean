/-
  Contracts of the reference's Encode of chapter 11: it returns what segment.Encode returns.
-/
import Derived.Test.YtkinlmanimdlcaaSgRb
import Derived.Test.YtkinlmanimdlcaaSgRv2
namespace Go.Proofs.Ytkinlmanimdlcaa.Sg
open Go.RowKit Go.Proofs.Ytkinlmanimdlcaa.Wire

theorem radr_any (a : Int) (w : World) : Calls Try.prog 31 #[.int .i64 a] w fun e w' => e = .returned (.bool (adrB a)) ∧ w = w' := by
  go_enter Try.func31, Try.ntmps31
  go_wp2
  all_goals
    go_ret
    exact ⟨ret_bool (by first | (rw [Bool.eq_iff_iff]; simp only [adrB, decide_eq_true_iff]; unfold Adr; omega) | (exact (decide_eq_false (fun q => by unfold Adr at q; omega)).symm)), rfl⟩
theorem radr_yes (a : Int) (h : Adr a) (w : World) : Calls Try.prog 31 #[.int .i64 a] w fun e w' => e = .returned (.bool true) ∧ w = w' := by
  have := radr_any a w
  rwa [show adrB a = true from decide_eq_true h] at this
theorem radr_no (a : Int) (h : ¬ Adr a) (w : World) : Calls Try.prog 31 #[.int .i64 a] w fun e w' => e = .returned (.bool false) ∧ w = w' := by
  have := radr_any a w
  rwa [show adrB a = false from decide_eq_false h] at this
set_option maxRecDepth 100000 in
set_option maxHeartbeats 4000000 in
theorem REncode_ok (f t : Int) (fp tp sq ack : Int) (syn fin rst ha : Bool) (win mss : Int) (sacks : Bool) (A : Option Addr) (n c : Nat) (bl : List (Int × Int)) (s : ByteArray) (w : World) (hf : Adr f) (ht : Adr t) (hv : Vld fp tp sq ack syn fin rst ha win mss sacks bl s.size) (hb : Bks w A n bl) :
    Calls Try.prog 15 #[.int .i64 f, .int .i64 t, .agg #[.int .i64 fp, .int .i64 tp, .int .i64 sq, .int .i64 ack, .bool syn, .bool fin, .bool rst, .bool ha, .int .i64 win, .int .i64 mss, .bool sacks, .slice A n c, .string s]] w fun e w' => e = .returned (.tuple #[.string ⟨(encOf f t (sb fp tp sq ack syn fin rst ha win mss sacks bl s)).toArray⟩, .int .i64 0]) ∧ Below w.heap.size w w' := by
  have HB0 := Lib.hid hb; clear hb
  have HL := Lib.hid HB0.out.1
  have hn3 : n ≤ 3 := by have := hv.2.2.1.1.1; have := HL.out; omega
  have hs : s.size ≤ 1024 := by have h := hv.2.2.2; unfold VS at h; split at h <;> omega
  have HV : Hid (∀ w, Bks w A n bl → Calls Try.prog 17 #[.agg #[.int .i64 fp, .int .i64 tp, .int .i64 sq, .int .i64 ack, .bool syn, .bool fin, .bool rst, .bool ha, .int .i64 win, .int .i64 mss, .bool sacks, .slice A n c, .string s]] w fun e w' => e = .returned (.bool true) ∧ Below w.heap.size w w') := Lib.hid fun w hb => by
    have := rvalid_any fp tp sq ack syn fin rst ha win mss sacks A n c bl s w (by omega) hb
    rwa [show vldB fp tp sq ack syn fin rst ha win mss sacks bl s.size = true from decide_eq_true hv] at this
  have HW : Hid (∀ (sum : Int) w, 0 ≤ sum → sum ≤ 65535 → Bks w A n bl → Calls Try.prog 32 #[.agg #[.int .i64 fp, .int .i64 tp, .int .i64 sq, .int .i64 ack, .bool syn, .bool fin, .bool rst, .bool ha, .int .i64 win, .int .i64 mss, .bool sacks, .slice A n c, .string s], .int .i64 sum] w fun e w' => e = .returned (.string ⟨(sb fp tp sq ack syn fin rst ha win mss sacks bl s sum).toArray⟩) ∧ Below w.heap.size w w') := Lib.hid fun sum w h0 h1 hb => rbytes_any fp tp sq ack syn fin rst ha win mss sacks A n c bl s sum w h0 h1 hv hb
  have hlen : (sb fp tp sq ack syn fin rst ha win mss sacks bl s 0).length ≤ 1100 := by unfold sb; rw [sbytes_length, HL.out]; omega
  clear hv
  generalize sb fp tp sq ack syn fin rst ha win mss sacks bl s = SBY at *
  have HF := Lib.hid fun w => radr_yes f hf w
  have HT := Lib.hid fun w => radr_yes t ht w
  obtain ⟨hf0, hf1⟩ := hf
  obtain ⟨ht0, ht1⟩ := ht
  have HBk := Lib.hid fun W (hb : Below w.heap.size w W) => HB0.out.below hb; clear HB0
  have HP0 := Lib.hid fun W => rp_any f 4 W (by omega) (by omega) (by omega) (by omega)
  have HP1 := Lib.hid fun W => rp_any t 4 W (by omega) (by omega) (by omega) (by omega)
  have HP2 := Lib.hid fun W => rp_any 6 2 W (by omega) (by omega) (by omega) (by omega)
  have HP3 := Lib.hid fun W => rp_any ((SBY 0).length : Int) 2 W (by omega) (by omega) (by omega) (by omega)
  unfold encOf
  have hps : ⟨(pseudo f t (SBY 0).length ++ SBY 0).toArray⟩ = (⟨(be 4 f).toArray⟩ ++ ⟨(be 4 t).toArray⟩ ++ ⟨(be 2 6).toArray⟩ ++ ⟨(be 2 ((SBY 0).length : Int)).toArray⟩ ++ ⟨(SBY 0).toArray⟩ : ByteArray) := by
    rw [ba_append, ba_append, ba_append, ba_append]; simp [pseudo, bes]
  rw [hps]
  have l0 : (be 4 f).length = 4 := be_length _ _
  have l1 : (be 4 t).length = 4 := be_length _ _
  have l2 : (be 2 6).length = 2 := be_length _ _
  have l3 : (be 2 ((SBY 0).length : Int)).length = 2 := be_length _ _
  clear hps
  generalize be 4 f = B0 at *
  generalize be 4 t = B1 at *
  generalize be 2 6 = B2 at *
  generalize be 2 ((SBY 0).length : Int) = B3 at *
  have hcb := csum_bd (⟨B0.toArray⟩ ++ ⟨B1.toArray⟩ ++ ⟨B2.toArray⟩ ++ ⟨B3.toArray⟩ ++ ⟨(SBY 0).toArray⟩)
  have HCS : Hid (∀ W, Calls Try.prog 33 #[.string (⟨B0.toArray⟩ ++ ⟨B1.toArray⟩ ++ ⟨B2.toArray⟩ ++ ⟨B3.toArray⟩ ++ ⟨(SBY 0).toArray⟩)] W fun e w' => e = .returned (.int .i64 (csum (⟨B0.toArray⟩ ++ ⟨B1.toArray⟩ ++ ⟨B2.toArray⟩ ++ ⟨B3.toArray⟩ ++ ⟨(SBY 0).toArray⟩))) ∧ Below W.heap.size W w') := Lib.hid fun W => (rchecksum_any _ W (by rw [ba_append, ba_append, ba_append, ba_append, sz]; simp [l0, l1, l2, l3]; omega)).mono (by rintro e w' ⟨rfl, rfl⟩; exact ⟨rfl, Below.refl _ _⟩)
  generalize csum (⟨B0.toArray⟩ ++ ⟨B1.toArray⟩ ++ ⟨B2.toArray⟩ ++ ⟨B3.toArray⟩ ++ ⟨(SBY 0).toArray⟩) = cs at *
  obtain ⟨hc0, hc1⟩ := hcb
  have s1 : ¬ 9223372036854775807 < 4 + 4 + 2 + 2 + (SBY 0).length := by omega
  have HB := Below.refl w.heap.size w
  have Hx := Lib.hid (alloc_new' w (.cells #[.int .i64 fp, .int .i64 tp, .int .i64 sq, .int .i64 ack, .bool syn, .bool fin, .bool rst, .bool ha, .int .i64 win, .int .i64 mss, .bool sacks, .slice A n c, .string s] 24) (w.heap.size) (by simp))
  have HB' := below_alloc (o := .cells #[.int .i64 fp, .int .i64 tp, .int .i64 sq, .int .i64 ack, .bool syn, .bool fin, .bool rst, .bool ha, .int .i64 win, .int .i64 mss, .bool sacks, .slice A n c, .string s] 24) HB; clear HB; have HB := HB'; clear HB'
  go_enter Try.func15, Try.ntmps15
  go_wp2_with fail
  refine (HF.out _).mono ?_
  rintro e w' ⟨rfl, rfl⟩
  go_wp2_with fail
  refine (HT.out _).mono ?_
  rintro e w' ⟨rfl, rfl⟩
  have Sx := cells13 Hx.out
  obtain ⟨⟨qx0, qx1, qx2, qx3, qx4, qx5, qx6, qx7, qx8, qx9, qx10, qx11, qx12⟩, zx0, zx1, zx2, zx3, zx4, zx5, zx6, zx7, zx8, zx9, zx10, zx11, zx12⟩ := Sx
  have lt_x := blk_lt Hx.out
  go_wp2_with fail
  refine (HV.out _ (HBk.out _ HB)).mono ?_
  rintro e w1 ⟨rfl, hb⟩
  clear qx0 zx0 qx1 zx1 qx2 zx2 qx3 zx3 qx4 zx4 qx5 zx5 qx6 zx6 qx7 zx7 qx8 zx8 qx9 zx9 qx10 zx10 qx11 zx11 qx12 zx12
  have Hx' := Lib.hid (bblock hb Hx.out); clear Hx; have Hx := Hx'; clear Hx'
  have HB' := below_call HB hb; clear HB hb; have HB := HB'; clear HB'; have hz1 := HB.size
  have lt_x_1 := blk_lt Hx.out
  have Sx := cells13 Hx.out
  obtain ⟨⟨qx0, qx1, qx2, qx3, qx4, qx5, qx6, qx7, qx8, qx9, qx10, qx11, qx12⟩, zx0, zx1, zx2, zx3, zx4, zx5, zx6, zx7, zx8, zx9, zx10, zx11, zx12⟩ := Sx
  have lt_x := blk_lt Hx.out
  go_wp2_with fail
  refine (HW.out 0 _ (by omega) (by omega) (HBk.out _ HB)).mono ?_
  rintro e w2 ⟨rfl, hb⟩
  clear qx0 zx0 qx1 zx1 qx2 zx2 qx3 zx3 qx4 zx4 qx5 zx5 qx6 zx6 qx7 zx7 qx8 zx8 qx9 zx9 qx10 zx10 qx11 zx11 qx12 zx12
  have Hx' := Lib.hid (bblock hb Hx.out); clear Hx; have Hx := Hx'; clear Hx'
  have HB' := below_call HB hb; clear HB hb; have HB := HB'; clear HB'; have hz2 := HB.size
  have lt_x_2 := blk_lt Hx.out
  generalize SBY 0 = E0 at *
  go_wp2_with fail
  have HR := Below.refl w2.heap.size w2
  have gx0 : Hid (w2.cell? ⟨w.heap.size, 0, none⟩ = some (.int .i64 fp)) := Lib.hid (cell_of_block (k := 0) Hx.out rfl).1
  have gx1 : Hid (w2.cell? ⟨w.heap.size, 1, none⟩ = some (.int .i64 tp)) := Lib.hid (cell_of_block (k := 1) Hx.out rfl).1
  have gx2 : Hid (w2.cell? ⟨w.heap.size, 2, none⟩ = some (.int .i64 sq)) := Lib.hid (cell_of_block (k := 2) Hx.out rfl).1
  have gx3 : Hid (w2.cell? ⟨w.heap.size, 3, none⟩ = some (.int .i64 ack)) := Lib.hid (cell_of_block (k := 3) Hx.out rfl).1
  have gx4 : Hid (w2.cell? ⟨w.heap.size, 4, none⟩ = some (.bool syn)) := Lib.hid (cell_of_block (k := 4) Hx.out rfl).1
  have gx5 : Hid (w2.cell? ⟨w.heap.size, 5, none⟩ = some (.bool fin)) := Lib.hid (cell_of_block (k := 5) Hx.out rfl).1
  have gx6 : Hid (w2.cell? ⟨w.heap.size, 6, none⟩ = some (.bool rst)) := Lib.hid (cell_of_block (k := 6) Hx.out rfl).1
  have gx7 : Hid (w2.cell? ⟨w.heap.size, 7, none⟩ = some (.bool ha)) := Lib.hid (cell_of_block (k := 7) Hx.out rfl).1
  have gx8 : Hid (w2.cell? ⟨w.heap.size, 8, none⟩ = some (.int .i64 win)) := Lib.hid (cell_of_block (k := 8) Hx.out rfl).1
  have gx9 : Hid (w2.cell? ⟨w.heap.size, 9, none⟩ = some (.int .i64 mss)) := Lib.hid (cell_of_block (k := 9) Hx.out rfl).1
  have gx10 : Hid (w2.cell? ⟨w.heap.size, 10, none⟩ = some (.bool sacks)) := Lib.hid (cell_of_block (k := 10) Hx.out rfl).1
  have gx11 : Hid (w2.cell? ⟨w.heap.size, 11, none⟩ = some (.slice A n c)) := Lib.hid (cell_of_block (k := 11) Hx.out rfl).1
  have gx12 : Hid (w2.cell? ⟨w.heap.size, 12, none⟩ = some (.string s)) := Lib.hid (cell_of_block (k := 12) Hx.out rfl).1
  go_region_held3 (fun w' => w'.cell? ⟨w.heap.size, 0, none⟩ = some (.int .i64 fp) ∧ w'.cell? ⟨w.heap.size, 1, none⟩ = some (.int .i64 tp) ∧ w'.cell? ⟨w.heap.size, 2, none⟩ = some (.int .i64 sq) ∧ w'.cell? ⟨w.heap.size, 3, none⟩ = some (.int .i64 ack) ∧ w'.cell? ⟨w.heap.size, 4, none⟩ = some (.bool syn) ∧ w'.cell? ⟨w.heap.size, 5, none⟩ = some (.bool fin) ∧ w'.cell? ⟨w.heap.size, 6, none⟩ = some (.bool rst) ∧ w'.cell? ⟨w.heap.size, 7, none⟩ = some (.bool ha) ∧ w'.cell? ⟨w.heap.size, 8, none⟩ = some (.int .i64 win) ∧ w'.cell? ⟨w.heap.size, 9, none⟩ = some (.int .i64 mss) ∧ w'.cell? ⟨w.heap.size, 10, none⟩ = some (.bool sacks) ∧ w'.cell? ⟨w.heap.size, 11, none⟩ = some (.slice A n c) ∧ w'.cell? ⟨w.heap.size, 12, none⟩ = some (.string s) ∧ Below w2.heap.size w2 w') (first | with_reducible exact ⟨bcell (hRv6.out) gx0.out, bcell (hRv6.out) gx1.out, bcell (hRv6.out) gx2.out, bcell (hRv6.out) gx3.out, bcell (hRv6.out) gx4.out, bcell (hRv6.out) gx5.out, bcell (hRv6.out) gx6.out, bcell (hRv6.out) gx7.out, bcell (hRv6.out) gx8.out, bcell (hRv6.out) gx9.out, bcell (hRv6.out) gx10.out, bcell (hRv6.out) gx11.out, bcell (hRv6.out) gx12.out, hRv6.out⟩ | with_reducible exact ⟨bcell (hRv5.out) gx0.out, bcell (hRv5.out) gx1.out, bcell (hRv5.out) gx2.out, bcell (hRv5.out) gx3.out, bcell (hRv5.out) gx4.out, bcell (hRv5.out) gx5.out, bcell (hRv5.out) gx6.out, bcell (hRv5.out) gx7.out, bcell (hRv5.out) gx8.out, bcell (hRv5.out) gx9.out, bcell (hRv5.out) gx10.out, bcell (hRv5.out) gx11.out, bcell (hRv5.out) gx12.out, hRv5.out⟩ | with_reducible exact ⟨bcell (hRv4.out) gx0.out, bcell (hRv4.out) gx1.out, bcell (hRv4.out) gx2.out, bcell (hRv4.out) gx3.out, bcell (hRv4.out) gx4.out, bcell (hRv4.out) gx5.out, bcell (hRv4.out) gx6.out, bcell (hRv4.out) gx7.out, bcell (hRv4.out) gx8.out, bcell (hRv4.out) gx9.out, bcell (hRv4.out) gx10.out, bcell (hRv4.out) gx11.out, bcell (hRv4.out) gx12.out, hRv4.out⟩ | with_reducible exact ⟨bcell (hRv3.out) gx0.out, bcell (hRv3.out) gx1.out, bcell (hRv3.out) gx2.out, bcell (hRv3.out) gx3.out, bcell (hRv3.out) gx4.out, bcell (hRv3.out) gx5.out, bcell (hRv3.out) gx6.out, bcell (hRv3.out) gx7.out, bcell (hRv3.out) gx8.out, bcell (hRv3.out) gx9.out, bcell (hRv3.out) gx10.out, bcell (hRv3.out) gx11.out, bcell (hRv3.out) gx12.out, hRv3.out⟩ | with_reducible exact ⟨bcell (hRv2.out) gx0.out, bcell (hRv2.out) gx1.out, bcell (hRv2.out) gx2.out, bcell (hRv2.out) gx3.out, bcell (hRv2.out) gx4.out, bcell (hRv2.out) gx5.out, bcell (hRv2.out) gx6.out, bcell (hRv2.out) gx7.out, bcell (hRv2.out) gx8.out, bcell (hRv2.out) gx9.out, bcell (hRv2.out) gx10.out, bcell (hRv2.out) gx11.out, bcell (hRv2.out) gx12.out, hRv2.out⟩ | with_reducible exact ⟨bcell (hRv1.out) gx0.out, bcell (hRv1.out) gx1.out, bcell (hRv1.out) gx2.out, bcell (hRv1.out) gx3.out, bcell (hRv1.out) gx4.out, bcell (hRv1.out) gx5.out, bcell (hRv1.out) gx6.out, bcell (hRv1.out) gx7.out, bcell (hRv1.out) gx8.out, bcell (hRv1.out) gx9.out, bcell (hRv1.out) gx10.out, bcell (hRv1.out) gx11.out, bcell (hRv1.out) gx12.out, hRv1.out⟩ | exact ⟨gx0.out, gx1.out, gx2.out, gx3.out, gx4.out, gx5.out, gx6.out, gx7.out, gx8.out, gx9.out, gx10.out, gx11.out, gx12.out, HR.drew⟩)
    (first | (go_at_call 32; have _t := hRv5; clear _t; refine (HW.out cs _ hc0 hc1 (HBk.out _ (below_call HB hRv5.out))).mono ?_; rintro e v6 ⟨rfl, hbv6⟩; have hRv6 := Lib.hid (below_call hRv5.out hbv6)) | (go_at_call 33; have _t := hRv4; clear _t; refine (HCS.out _).mono ?_; rintro e v5 ⟨rfl, hbv5⟩; have hRv5 := Lib.hid (below_call hRv4.out hbv5)) | (go_at_call 34; have _t := hRv3; clear _t; refine (HP3.out _).mono ?_; rintro e v4 ⟨rfl, hbv4⟩; have hRv4 := Lib.hid (below_call hRv3.out hbv4)) | (go_at_call 34; have _t := hRv2; clear _t; refine (HP2.out _).mono ?_; rintro e v3 ⟨rfl, hbv3⟩; have hRv3 := Lib.hid (below_call hRv2.out hbv3)) | (go_at_call 34; have _t := hRv1; clear _t; refine (HP1.out _).mono ?_; rintro e v2 ⟨rfl, hbv2⟩; have hRv2 := Lib.hid (below_call hRv1.out hbv2)) | (go_at_call 34; refine (HP0.out _).mono ?_; rintro e v1 ⟨rfl, hbv1⟩; have hRv1 := Lib.hid (below_call HR.drew hbv1)))
  have hb := hRv6.out
  clear HR hRv1 hbv1 hRv2 hbv2 hRv3 hbv3 hRv4 hbv4 hRv5 hbv5 hRv6 hbv6 gx0 gx1 gx2 gx3 gx4 gx5 gx6 gx7 gx8 gx9 gx10 gx11 gx12
  have Hx' := Lib.hid (bblock hb Hx.out); clear Hx; have Hx := Hx'; clear Hx'
  have HB' := below_call HB hb; clear HB hb; have HB := HB'; clear HB'; have hz := HB.size
  go_wp2_with fail
  go_ret2
  exact ⟨rfl, HB⟩

theorem REncode_noaddr (f t : Int) (fp tp sq ack : Int) (syn fin rst ha : Bool) (win mss : Int) (sacks : Bool) (A : Option Addr) (n c : Nat) (s : ByteArray) (w : World) (h : ¬ (Adr f ∧ Adr t)) :
    Calls Try.prog 15 #[.int .i64 f, .int .i64 t, .agg #[.int .i64 fp, .int .i64 tp, .int .i64 sq, .int .i64 ack, .bool syn, .bool fin, .bool rst, .bool ha, .int .i64 win, .int .i64 mss, .bool sacks, .slice A n c, .string s]] w fun e w' => e = .returned (.tuple #[.string ⟨#[]⟩, .int .i64 30]) ∧ Below w.heap.size w w' := by
  by_cases hf : Adr f
  · have HF := Lib.hid fun w => radr_yes f hf w
    have HT := Lib.hid fun w => radr_no t (fun q => h ⟨hf, q⟩) w
    clear h hf
    go_enter Try.func15, Try.ntmps15
    go_wp2_with fail
    refine (HF.out _).mono ?_
    rintro e w' ⟨rfl, rfl⟩
    go_wp2_with fail
    refine (HT.out _).mono ?_
    rintro e w' ⟨rfl, rfl⟩
    go_wp2_with fail
    go_ret2
    exact ⟨rfl, below_alloc (Below.refl _ _)⟩
  · have HF := Lib.hid fun w => radr_no f hf w
    clear h hf
    go_enter Try.func15, Try.ntmps15
    go_wp2_with fail
    refine (HF.out _).mono ?_
    rintro e w' ⟨rfl, rfl⟩
    go_wp2_with fail
    go_ret2
    exact ⟨rfl, below_alloc (Below.refl _ _)⟩

set_option maxRecDepth 100000 in
set_option maxHeartbeats 4000000 in
theorem REncode_noseg (f t : Int) (fp tp sq ack : Int) (syn fin rst ha : Bool) (win mss : Int) (sacks : Bool) (A : Option Addr) (n c : Nat) (bl : List (Int × Int)) (s : ByteArray) (w : World) (hn : n ≤ 9223372036854775807) (hf : Adr f) (ht : Adr t) (hv : ¬ Vld fp tp sq ack syn fin rst ha win mss sacks bl s.size) (hb : Bks w A n bl) :
    Calls Try.prog 15 #[.int .i64 f, .int .i64 t, .agg #[.int .i64 fp, .int .i64 tp, .int .i64 sq, .int .i64 ack, .bool syn, .bool fin, .bool rst, .bool ha, .int .i64 win, .int .i64 mss, .bool sacks, .slice A n c, .string s]] w fun e w' => e = .returned (.tuple #[.string ⟨#[]⟩, .int .i64 110]) ∧ Below w.heap.size w w' := by
  have HB0 := Lib.hid hb; clear hb
  have HV : Hid (∀ w, Bks w A n bl → Calls Try.prog 17 #[.agg #[.int .i64 fp, .int .i64 tp, .int .i64 sq, .int .i64 ack, .bool syn, .bool fin, .bool rst, .bool ha, .int .i64 win, .int .i64 mss, .bool sacks, .slice A n c, .string s]] w fun e w' => e = .returned (.bool false) ∧ Below w.heap.size w w') := Lib.hid fun w hb => by
    have := rvalid_any fp tp sq ack syn fin rst ha win mss sacks A n c bl s w hn hb
    rwa [show vldB fp tp sq ack syn fin rst ha win mss sacks bl s.size = false from decide_eq_false hv] at this
  have HF := Lib.hid fun w => radr_yes f hf w
  have HT := Lib.hid fun w => radr_yes t ht w
  have HBk := Lib.hid fun W (hb : Below w.heap.size w W) => HB0.out.below hb; clear HB0
  clear hv hf ht
  have Hx := Lib.hid (alloc_new w (.cells #[.int .i64 fp, .int .i64 tp, .int .i64 sq, .int .i64 ack, .bool syn, .bool fin, .bool rst, .bool ha, .int .i64 win, .int .i64 mss, .bool sacks, .slice A n c, .string s] 24))
  have HB := below_alloc (o := .cells #[.int .i64 fp, .int .i64 tp, .int .i64 sq, .int .i64 ack, .bool syn, .bool fin, .bool rst, .bool ha, .int .i64 win, .int .i64 mss, .bool sacks, .slice A n c, .string s] 24) (Below.refl w.heap.size w)
  have qx0 := (cell_of_block (k := 0) Hx.out rfl).1; have zx0 := (cell_of_block (k := 0) Hx.out rfl).2; have qx1 := (cell_of_block (k := 1) Hx.out rfl).1; have zx1 := (cell_of_block (k := 1) Hx.out rfl).2; have qx2 := (cell_of_block (k := 2) Hx.out rfl).1; have zx2 := (cell_of_block (k := 2) Hx.out rfl).2; have qx3 := (cell_of_block (k := 3) Hx.out rfl).1; have zx3 := (cell_of_block (k := 3) Hx.out rfl).2; have qx4 := (cell_of_block (k := 4) Hx.out rfl).1; have zx4 := (cell_of_block (k := 4) Hx.out rfl).2; have qx5 := (cell_of_block (k := 5) Hx.out rfl).1; have zx5 := (cell_of_block (k := 5) Hx.out rfl).2; have qx6 := (cell_of_block (k := 6) Hx.out rfl).1; have zx6 := (cell_of_block (k := 6) Hx.out rfl).2; have qx7 := (cell_of_block (k := 7) Hx.out rfl).1; have zx7 := (cell_of_block (k := 7) Hx.out rfl).2; have qx8 := (cell_of_block (k := 8) Hx.out rfl).1; have zx8 := (cell_of_block (k := 8) Hx.out rfl).2; have qx9 := (cell_of_block (k := 9) Hx.out rfl).1; have zx9 := (cell_of_block (k := 9) Hx.out rfl).2; have qx10 := (cell_of_block (k := 10) Hx.out rfl).1; have zx10 := (cell_of_block (k := 10) Hx.out rfl).2; have qx11 := (cell_of_block (k := 11) Hx.out rfl).1; have zx11 := (cell_of_block (k := 11) Hx.out rfl).2; have qx12 := (cell_of_block (k := 12) Hx.out rfl).1; have zx12 := (cell_of_block (k := 12) Hx.out rfl).2; have lt_x := blk_lt Hx.out
  go_enter Try.func15, Try.ntmps15
  go_wp2_with fail
  refine (HF.out _).mono ?_
  rintro e w' ⟨rfl, rfl⟩
  go_wp2_with fail
  refine (HT.out _).mono ?_
  rintro e w' ⟨rfl, rfl⟩
  go_wp2_with fail
  clear qx0 zx0 qx1 zx1 qx2 zx2 qx3 zx3 qx4 zx4 qx5 zx5 qx6 zx6 qx7 zx7 qx8 zx8 qx9 zx9 qx10 zx10 qx11 zx11 qx12 zx12 lt_x
  refine (HV.out _ (HBk.out _ HB)).mono ?_
  rintro e w1 ⟨rfl, hb⟩
  have HB' := below_call HB hb; clear HB hb; have HB := HB'; clear HB'; have hz := HB.size
  go_wp2_with fail
  go_ret2
  exact ⟨rfl, HB⟩
end Go.Proofs.Ytkinlmanimdlcaa.Sg
