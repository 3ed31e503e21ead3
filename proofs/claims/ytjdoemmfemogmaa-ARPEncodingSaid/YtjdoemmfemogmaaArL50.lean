/-
  The walk of the law ARPEncoding.
-/
import Derived.Test.YtjdoemmfemogmaaArSan
import Derived.Test.YtjdoemmfemogmaaArRef2
import Derived.Test.YtjdoemmfemogmaaArArgC
import Derived.Deep.DeepCutAuto
namespace Go.Proofs.Ytjdoemmfemogmaa.Ar
set_option maxRecDepth 100000
open Go.RowKit Go.Proofs.Ytjdoemmfemogmaa.Wire

theorem enc_both (a : Am) : ∃ (st : ByteArray) (er : Int), (∀ W, Calls Try.prog 14 #[.agg #[.int .i64 a.op, .int .i64 a.f, .int .i64 a.fm, .int .i64 a.t, .int .i64 a.tm]] W fun e w' => e = .returned (.tuple #[.string st, .int .i64 er]) ∧ Below W.heap.size W w') ∧ (∀ W, Calls Try.prog 15 #[.agg #[.int .i64 a.op, .int .i64 a.f, .int .i64 a.fm, .int .i64 a.t, .int .i64 a.tm]] W fun e w' => e = .returned (.tuple #[.string st, .int .i64 er]) ∧ Below W.heap.size W w') ∧ (a.ok → st.size = 13) := by
  by_cases h : a.ok
  · exact ⟨_, 0, fun W => encode_ok a.op a.f a.fm a.t a.tm W h, fun W => rencode_ok a.op a.f a.fm a.t a.tm W h, fun _ => by rw [sz, encM_len]⟩
  · exact ⟨⟨#[]⟩, 50, fun W => encode_no a.op a.f a.fm a.t a.tm W h, fun W => rencode_no a.op a.f a.fm a.t a.tm W h, fun q => absurd q h⟩
theorem dec_both (s : ByteArray) (hm : s.size ≤ 9223372036854775807) : ∃ (d : Am) (er : Int), (∀ W, Calls Try.prog 19 #[.string s] W fun e w' => e = .returned (.tuple #[.agg #[.int .i64 d.op, .int .i64 d.f, .int .i64 d.fm, .int .i64 d.t, .int .i64 d.tm], .int .i64 er]) ∧ Below W.heap.size W w') ∧ (∀ W, Calls Try.prog 20 #[.string s] W fun e w' => e = .returned (.tuple #[.agg #[.int .i64 d.op, .int .i64 d.f, .int .i64 d.fm, .int .i64 d.t, .int .i64 d.tm], .int .i64 er]) ∧ Below W.heap.size W w') := by
  have hd : ∃ (d : Am) (er : Int), decR s = .tuple #[.agg #[.int .i64 d.op, .int .i64 d.f, .int .i64 d.fm, .int .i64 d.t, .int .i64 d.tm], .int .i64 er] := by
    unfold decR
    split
    · exact ⟨⟨_, _, _, _, _⟩, 0, rfl⟩
    · exact ⟨⟨0, 0, 0, 0, 0⟩, 50, rfl⟩
  obtain ⟨d, er, e⟩ := hd
  refine ⟨d, er, fun W => ?_, fun W => ?_⟩
  · rw [← e]
    by_cases h : s.size = 13
    · exact decode_13 s W h
    · exact decode_len s W h
  · rw [← e]; exact rdecode_any s W hm
set_option maxHeartbeats 8000000 in
theorem enc_law (a : Am) (kd : Int) (ad mc to_ op : Int) (cs : ByteArray) (ti a0 a1 a2 a3 a4 : Int) (s : ByteArray) (at_ by_ : Int) (w : World) (h1 : In64 ad) (h2 : In64 mc) (h3 : In64 to_) (h4 : In64 op) (h5 : In64 at_) (hs : s.size ≤ 9223372036854775807) :
    Calls Try.prog 3 #[.agg #[.int .i64 a.op, .int .i64 a.f, .int .i64 a.fm, .int .i64 a.t, .int .i64 a.tm], .agg #[.int .u8 kd, .int .i64 ad, .int .i64 mc, .int .i64 to_, .int .i64 op, .string cs, .int .i64 ti, .int .i64 a0, .int .i64 a1, .int .i64 a2, .int .i64 a3, .int .i64 a4], .string s, .int .i64 at_, .int .u8 by_] w fun x w' => x = .returned (.bool true) ∧ Below w.heap.size w w' := by
  have PM := Lib.hid (fun W => message_any kd ad mc to_ op cs ti a0 a1 a2 a3 a4 W h1 h2 h3 h4)
  have hMok := msgC_ok ad mc to_ op
  generalize msgC ad mc to_ op = M at *
  have P13 := Lib.hid (fun W => pick_any at_ 13 W h5 (by omega) (by omega))
  have b13 := pick_lt at_ 13 (by omega)
  obtain ⟨k9, hk9⟩ := Int.eq_ofNat_of_zero_le b13.1
  rw [hk9] at P13 b13
  clear h1 h2 h3 h4 h5 hk9
  have HMOK := Lib.hid hMok
  clear hMok
  have HA := Lib.hid (block_alloc (alloc_new w (.cells #[.int .i64 a.op, .int .i64 a.f, .int .i64 a.fm, .int .i64 a.t, .int .i64 a.tm] 23)) (.cells #[.int .u8 kd, .int .i64 ad, .int .i64 mc, .int .i64 to_, .int .i64 op, .string cs, .int .i64 ti, .int .i64 a0, .int .i64 a1, .int .i64 a2, .int .i64 a3, .int .i64 a4] 25))
  have HC := Lib.hid (alloc_new' (w.alloc (.cells #[.int .i64 a.op, .int .i64 a.f, .int .i64 a.fm, .int .i64 a.t, .int .i64 a.tm] 23)) (.cells #[.int .u8 kd, .int .i64 ad, .int .i64 mc, .int .i64 to_, .int .i64 op, .string cs, .int .i64 ti, .int .i64 a0, .int .i64 a1, .int .i64 a2, .int .i64 a3, .int .i64 a4] 25) (w.heap.size + 1) (by simp))
  have HB := Lib.hid (below_alloc (o := .cells #[.int .u8 kd, .int .i64 ad, .int .i64 mc, .int .i64 to_, .int .i64 op, .string cs, .int .i64 ti, .int .i64 a0, .int .i64 a1, .int .i64 a2, .int .i64 a3, .int .i64 a4] 25) (below_alloc (o := .cells #[.int .i64 a.op, .int .i64 a.f, .int .i64 a.fm, .int .i64 a.t, .int .i64 a.tm] 23) (Below.refl w.heap.size w)))
  obtain ⟨x0, hx⟩ : ∃ x, w.heap.size = x := ⟨_, rfl⟩
  rw [hx] at HA HC
  have HXE := Lib.hid hx
  clear hx
  go_enter Try.func3, Try.ntmps3
  go_upto_region 1 with fail
  rw [HXE.out]
  generalize (w.alloc (.cells #[.int .i64 a.op, .int .i64 a.f, .int .i64 a.fm, .int .i64 a.t, .int .i64 a.tm] 23)).alloc (.cells #[.int .u8 kd, .int .i64 ad, .int .i64 mc, .int .i64 to_, .int .i64 op, .string cs, .int .i64 ti, .int .i64 a0, .int .i64 a1, .int .i64 a2, .int .i64 a3, .int .i64 a4] 25) = w0 at *
  go_wp2_with fail
  refine (sanity_any _).mono ?_
  rintro x w1 ⟨rfl, hb1⟩
  have HA1 := Lib.hid (bblock hb1 HA.out); have HC1 := Lib.hid (bblock hb1 HC.out); have HB1 := Lib.hid (below_call HB.out hb1)
  clear hb1 HA HC HB
  go_upto_region 2 with fail
  go_cut [32, 33, 34] (fun s32 s33 s34 wx => ∃ g, s32 = .slice (some ⟨g, 0, none⟩) 2 2 ∧ s33 = .int .i64 2 ∧ s34 = .int .i64 0 ∧ wx.heap[g]? = some (.cells #[.int .i64 a.op, .int .i64 a.f, .int .i64 a.fm, .int .i64 a.t, .int .i64 a.tm, .int .i64 M.op, .int .i64 M.f, .int .i64 M.fm, .int .i64 M.t, .int .i64 M.tm] 23) ∧ Below w1.heap.size w1 wx)
  case first =>
    have p0 := (cell_of_block (k := 0) HA1.out rfl).1; have p1 := (cell_of_block (k := 1) HA1.out rfl).1; have p2 := (cell_of_block (k := 2) HA1.out rfl).1; have p3 := (cell_of_block (k := 3) HA1.out rfl).1; have p4 := (cell_of_block (k := 4) HA1.out rfl).1
    have q0 := (cell_of_block (k := 0) HC1.out rfl).1; have q1 := (cell_of_block (k := 1) HC1.out rfl).1; have q2 := (cell_of_block (k := 2) HC1.out rfl).1; have q3 := (cell_of_block (k := 3) HC1.out rfl).1; have q4 := (cell_of_block (k := 4) HC1.out rfl).1; have q5 := (cell_of_block (k := 5) HC1.out rfl).1; have q6 := (cell_of_block (k := 6) HC1.out rfl).1; have q7 := (cell_of_block (k := 7) HC1.out rfl).1; have q8 := (cell_of_block (k := 8) HC1.out rfl).1; have q9 := (cell_of_block (k := 9) HC1.out rfl).1; have q10 := (cell_of_block (k := 10) HC1.out rfl).1; have q11 := (cell_of_block (k := 11) HC1.out rfl).1
    have KS : Hid (∀ W, Below w1.heap.size w1 W → (fun w' => w'.cell? ⟨x0, 0, none⟩ = some (.int .i64 a.op) ∧ w'.cell? ⟨x0, 1, none⟩ = some (.int .i64 a.f) ∧ w'.cell? ⟨x0, 2, none⟩ = some (.int .i64 a.fm) ∧ w'.cell? ⟨x0, 3, none⟩ = some (.int .i64 a.t) ∧ w'.cell? ⟨x0, 4, none⟩ = some (.int .i64 a.tm) ∧ w'.cell? ⟨x0 + 1, 0, none⟩ = some (.int .u8 kd) ∧ w'.cell? ⟨x0 + 1, 1, none⟩ = some (.int .i64 ad) ∧ w'.cell? ⟨x0 + 1, 2, none⟩ = some (.int .i64 mc) ∧ w'.cell? ⟨x0 + 1, 3, none⟩ = some (.int .i64 to_) ∧ w'.cell? ⟨x0 + 1, 4, none⟩ = some (.int .i64 op) ∧ w'.cell? ⟨x0 + 1, 5, none⟩ = some (.string cs) ∧ w'.cell? ⟨x0 + 1, 6, none⟩ = some (.int .i64 ti) ∧ w'.cell? ⟨x0 + 1, 7, none⟩ = some (.int .i64 a0) ∧ w'.cell? ⟨x0 + 1, 8, none⟩ = some (.int .i64 a1) ∧ w'.cell? ⟨x0 + 1, 9, none⟩ = some (.int .i64 a2) ∧ w'.cell? ⟨x0 + 1, 10, none⟩ = some (.int .i64 a3) ∧ w'.cell? ⟨x0 + 1, 11, none⟩ = some (.int .i64 a4) ∧ Below w1.heap.size w1 w') W) := Lib.hid (fun W h => ⟨bcell h p0, bcell h p1, bcell h p2, bcell h p3, bcell h p4, bcell h q0, bcell h q1, bcell h q2, bcell h q3, bcell h q4, bcell h q5, bcell h q6, bcell h q7, bcell h q8, bcell h q9, bcell h q10, bcell h q11, h⟩)
    clear p0 p1 p2 p3 p4 q0 q1 q2 q3 q4 q5 q6 q7 q8 q9 q10 q11
    have HR := Lib.hid (Below.refl w1.heap.size w1).drew
    go_region_held3 (fun w' => w'.cell? ⟨x0, 0, none⟩ = some (.int .i64 a.op) ∧ w'.cell? ⟨x0, 1, none⟩ = some (.int .i64 a.f) ∧ w'.cell? ⟨x0, 2, none⟩ = some (.int .i64 a.fm) ∧ w'.cell? ⟨x0, 3, none⟩ = some (.int .i64 a.t) ∧ w'.cell? ⟨x0, 4, none⟩ = some (.int .i64 a.tm) ∧ w'.cell? ⟨x0 + 1, 0, none⟩ = some (.int .u8 kd) ∧ w'.cell? ⟨x0 + 1, 1, none⟩ = some (.int .i64 ad) ∧ w'.cell? ⟨x0 + 1, 2, none⟩ = some (.int .i64 mc) ∧ w'.cell? ⟨x0 + 1, 3, none⟩ = some (.int .i64 to_) ∧ w'.cell? ⟨x0 + 1, 4, none⟩ = some (.int .i64 op) ∧ w'.cell? ⟨x0 + 1, 5, none⟩ = some (.string cs) ∧ w'.cell? ⟨x0 + 1, 6, none⟩ = some (.int .i64 ti) ∧ w'.cell? ⟨x0 + 1, 7, none⟩ = some (.int .i64 a0) ∧ w'.cell? ⟨x0 + 1, 8, none⟩ = some (.int .i64 a1) ∧ w'.cell? ⟨x0 + 1, 9, none⟩ = some (.int .i64 a2) ∧ w'.cell? ⟨x0 + 1, 10, none⟩ = some (.int .i64 a3) ∧ w'.cell? ⟨x0 + 1, 11, none⟩ = some (.int .i64 a4) ∧ Below w1.heap.size w1 w') ((first | with_reducible exact KS.out _ hRb.out | with_reducible exact KS.out _ (below_alloc hRb.out) | with_reducible exact KS.out _ HR.out))
      ((go_simp; go_at_call 13; with_reducible refine (PM.out _).mono ?_; rintro e v ⟨rfl, hb⟩; have hRb := Lib.hid (below_call HR.out hb)))
    all_goals
      go_wp2_with fail
      go_meet
      exact ⟨_, rfl, rfl, rfl, alloc_new _ _, below_alloc hRb.out⟩
  case rest =>
  obtain ⟨g, rfl, rfl, rfl, hg, hb2⟩ := hcut
  obtain ⟨w2, rfl⟩ : ∃ wo : World, wo = wc := ⟨_, rfl⟩
  have HG := Lib.hid hg; have HC2 := Lib.hid (bblock hb2 HC1.out); have HB2 := Lib.hid (below_call HB1.out hb2)
  clear hg hb2 HA1 HC1 HB1
  go_wp2_with fail
  go_loopw [34] (fun i wr => ∃ k : Nat, k ≤ 2 ∧ i = .int .i64 (k : Int) ∧ wr.heap[g]? = some (.cells #[.int .i64 a.op, .int .i64 a.f, .int .i64 a.fm, .int .i64 a.t, .int .i64 a.tm, .int .i64 M.op, .int .i64 M.f, .int .i64 M.fm, .int .i64 M.t, .int .i64 M.tm] 23) ∧ wr.heap[x0 + 1]? = some (.cells #[.int .u8 kd, .int .i64 ad, .int .i64 mc, .int .i64 to_, .int .i64 op, .string cs, .int .i64 ti, .int .i64 a0, .int .i64 a1, .int .i64 a2, .int .i64 a3, .int .i64 a4] 25) ∧ Below w.heap.size w wr) (fun i _ => 2 - (Go.RowKit.intOf i).toNat)
  case atStart => exact ⟨0, by omega, rfl, HG.out, HC2.out, HB2.out⟩
  case round =>
    clear HG HC2 HB2
    obtain ⟨k, hk, rfl, hg, hc, hb⟩ := hrel
    have HG := Lib.hid hg; have HC := Lib.hid hc; have HB := Lib.hid hb; clear hg hc hb
    obtain ⟨wx, rfl⟩ : ∃ wo : World, wo = wr := ⟨_, rfl⟩
    have hcase : k = 0 ∨ k = 1 ∨ k = 2 := by omega
    rcases hcase with rfl | rfl | rfl
    case inl =>
      have c0 : wx.cell? ⟨g, 0, none⟩ = some (.int .i64 a.op) := (cell_of_block (k := 0) HG.out rfl).1; have c1 : wx.cell? ⟨g, 1, none⟩ = some (.int .i64 a.f) := (cell_of_block (k := 1) HG.out rfl).1; have c2 : wx.cell? ⟨g, 2, none⟩ = some (.int .i64 a.fm) := (cell_of_block (k := 2) HG.out rfl).1; have c3 : wx.cell? ⟨g, 3, none⟩ = some (.int .i64 a.t) := (cell_of_block (k := 3) HG.out rfl).1; have c4 : wx.cell? ⟨g, 4, none⟩ = some (.int .i64 a.tm) := (cell_of_block (k := 4) HG.out rfl).1
      have hgl := blk_lt HG.out
      have HZ := Lib.hid (alloc_new wx (.cells #[.int .i64 a.op, .int .i64 a.f, .int .i64 a.fm, .int .i64 a.t, .int .i64 a.tm] 23))
      have HG' := Lib.hid (block_alloc HG.out (.cells #[.int .i64 a.op, .int .i64 a.f, .int .i64 a.fm, .int .i64 a.t, .int .i64 a.tm] 23)); have HC' := Lib.hid (block_alloc HC.out (.cells #[.int .i64 a.op, .int .i64 a.f, .int .i64 a.fm, .int .i64 a.t, .int .i64 a.tm] 23)); have HB' := Lib.hid (below_alloc (o := .cells #[.int .i64 a.op, .int .i64 a.f, .int .i64 a.fm, .int .i64 a.t, .int .i64 a.tm] 23) HB.out)
      obtain ⟨z, hz⟩ : ∃ z, wx.heap.size = z := ⟨_, rfl⟩
      rw [hz] at HZ
      have HZE := Lib.hid hz
      clear hz HG HC HB
      obtain ⟨st, er, hE1, hE2, -⟩ := enc_both a
      have E1 := Lib.hid hE1; have E2 := Lib.hid hE2
      obtain ⟨ob, hob⟩ : ∃ ob, Am.okB ⟨a.op, a.f, a.fm, a.t, a.tm⟩ = ob := ⟨_, rfl⟩
      have V1 : Hid (∀ W, Calls Try.prog 16 #[.agg #[.int .i64 a.op, .int .i64 a.f, .int .i64 a.fm, .int .i64 a.t, .int .i64 a.tm]] W fun e w' => e = .returned (.bool ob) ∧ Below W.heap.size W w') := Lib.hid (fun W => by rw [← hob]; exact valid_any _ _ _ _ _ W)
      have V2 : Hid (∀ W, Calls Try.prog 17 #[.agg #[.int .i64 a.op, .int .i64 a.f, .int .i64 a.fm, .int .i64 a.t, .int .i64 a.tm]] W fun e w' => e = .returned (.bool ob) ∧ Below W.heap.size W w') := Lib.hid (fun W => by rw [← hob]; exact rvalid_any _ _ _ _ _ W)
      clear hE1 hE2 hob
      go_upto_region 5 with fail
      rw [HZE.out]
      clear c0 c1 c2 c3 c4
      generalize wx.alloc (.cells #[.int .i64 a.op, .int .i64 a.f, .int .i64 a.fm, .int .i64 a.t, .int .i64 a.tm] 23) = w3 at *
      obtain ⟨⟨z0, z1, z2, z3, z4⟩, -⟩ := cells5 HZ.out
      go_wp2_with fail
      refine (E1.out _).mono ?_
      rintro e w4 ⟨rfl, hb4⟩
      have HZ4 := Lib.hid (bblock hb4 HZ.out); have HG4 := Lib.hid (bblock hb4 HG'.out); have HC4 := Lib.hid (bblock hb4 HC'.out); have HB4 := Lib.hid (below_call HB'.out hb4)
      clear hb4 HZ HG' HC' HB' z0 z1 z2 z3 z4
      obtain ⟨⟨z0, z1, z2, z3, z4⟩, -⟩ := cells5 HZ4.out
      go_wp2_with fail
      refine (E2.out _).mono ?_
      rintro e w5 ⟨rfl, hb5⟩
      have HZ5 := Lib.hid (bblock hb5 HZ4.out); have HG5 := Lib.hid (bblock hb5 HG4.out); have HC5 := Lib.hid (bblock hb5 HC4.out); have HB5 := Lib.hid (below_call HB4.out hb5)
      clear hb5 HZ4 HG4 HC4 HB4 z0 z1 z2 z3 z4
      go_upto_region 7 with fail
      have p0 := (cell_of_block (k := 0) HZ5.out rfl).1; have p1 := (cell_of_block (k := 1) HZ5.out rfl).1; have p2 := (cell_of_block (k := 2) HZ5.out rfl).1; have p3 := (cell_of_block (k := 3) HZ5.out rfl).1; have p4 := (cell_of_block (k := 4) HZ5.out rfl).1
      have KS : Hid (∀ W, Below w5.heap.size w5 W → (fun w' => w'.cell? ⟨z, 0, none⟩ = some (.int .i64 a.op) ∧ w'.cell? ⟨z, 1, none⟩ = some (.int .i64 a.f) ∧ w'.cell? ⟨z, 2, none⟩ = some (.int .i64 a.fm) ∧ w'.cell? ⟨z, 3, none⟩ = some (.int .i64 a.t) ∧ w'.cell? ⟨z, 4, none⟩ = some (.int .i64 a.tm) ∧ Below w5.heap.size w5 w') W) := Lib.hid (fun W h => ⟨bcell h p0, bcell h p1, bcell h p2, bcell h p3, bcell h p4, h⟩)
      clear p0 p1 p2 p3 p4
      have HR := Lib.hid (Below.refl w5.heap.size w5).drew
      go_region_held3 (fun w' => w'.cell? ⟨z, 0, none⟩ = some (.int .i64 a.op) ∧ w'.cell? ⟨z, 1, none⟩ = some (.int .i64 a.f) ∧ w'.cell? ⟨z, 2, none⟩ = some (.int .i64 a.fm) ∧ w'.cell? ⟨z, 3, none⟩ = some (.int .i64 a.t) ∧ w'.cell? ⟨z, 4, none⟩ = some (.int .i64 a.tm) ∧ Below w5.heap.size w5 w') ((first | with_reducible exact KS.out _ hR2.out | with_reducible exact KS.out _ hR1.out | with_reducible exact KS.out _ HR.out))
        (first | (go_simp; go_at_call 17; have _t := hR1; clear _t; with_reducible refine (V2.out _).mono ?_; rintro e v2 ⟨rfl, hb2⟩; have hR2 := Lib.hid (below_call hR1.out hb2)) | (go_simp; go_at_call 16; with_reducible refine (V1.out _).mono ?_; rintro e v1 ⟨rfl, hb1⟩; have hR1 := Lib.hid (below_call HR.out hb1)))
      all_goals
        go_wp2_with fail
        go_roundw
        case rel => exact ⟨1, by omega, by go_num, bblock hR2.out HG5.out, bblock hR2.out HC5.out, below_call HB5.out hR2.out⟩
        case measure => simp [Go.RowKit.intOf]
    case inr.inl =>
      have c0 : wx.cell? ⟨g, 5, none⟩ = some (.int .i64 M.op) := (cell_of_block (k := 5) HG.out rfl).1; have c1 : wx.cell? ⟨g, 6, none⟩ = some (.int .i64 M.f) := (cell_of_block (k := 6) HG.out rfl).1; have c2 : wx.cell? ⟨g, 7, none⟩ = some (.int .i64 M.fm) := (cell_of_block (k := 7) HG.out rfl).1; have c3 : wx.cell? ⟨g, 8, none⟩ = some (.int .i64 M.t) := (cell_of_block (k := 8) HG.out rfl).1; have c4 : wx.cell? ⟨g, 9, none⟩ = some (.int .i64 M.tm) := (cell_of_block (k := 9) HG.out rfl).1
      have hgl := blk_lt HG.out
      have HZ := Lib.hid (alloc_new wx (.cells #[.int .i64 M.op, .int .i64 M.f, .int .i64 M.fm, .int .i64 M.t, .int .i64 M.tm] 23))
      have HG' := Lib.hid (block_alloc HG.out (.cells #[.int .i64 M.op, .int .i64 M.f, .int .i64 M.fm, .int .i64 M.t, .int .i64 M.tm] 23)); have HC' := Lib.hid (block_alloc HC.out (.cells #[.int .i64 M.op, .int .i64 M.f, .int .i64 M.fm, .int .i64 M.t, .int .i64 M.tm] 23)); have HB' := Lib.hid (below_alloc (o := .cells #[.int .i64 M.op, .int .i64 M.f, .int .i64 M.fm, .int .i64 M.t, .int .i64 M.tm] 23) HB.out)
      obtain ⟨z, hz⟩ : ∃ z, wx.heap.size = z := ⟨_, rfl⟩
      rw [hz] at HZ
      have HZE := Lib.hid hz
      clear hz HG HC HB
      obtain ⟨st, er, hE1, hE2, -⟩ := enc_both M
      have E1 := Lib.hid hE1; have E2 := Lib.hid hE2
      obtain ⟨ob, hob⟩ : ∃ ob, Am.okB ⟨M.op, M.f, M.fm, M.t, M.tm⟩ = ob := ⟨_, rfl⟩
      have V1 : Hid (∀ W, Calls Try.prog 16 #[.agg #[.int .i64 M.op, .int .i64 M.f, .int .i64 M.fm, .int .i64 M.t, .int .i64 M.tm]] W fun e w' => e = .returned (.bool ob) ∧ Below W.heap.size W w') := Lib.hid (fun W => by rw [← hob]; exact valid_any _ _ _ _ _ W)
      have V2 : Hid (∀ W, Calls Try.prog 17 #[.agg #[.int .i64 M.op, .int .i64 M.f, .int .i64 M.fm, .int .i64 M.t, .int .i64 M.tm]] W fun e w' => e = .returned (.bool ob) ∧ Below W.heap.size W w') := Lib.hid (fun W => by rw [← hob]; exact rvalid_any _ _ _ _ _ W)
      clear hE1 hE2 hob
      go_upto_region 5 with fail
      rw [HZE.out]
      clear c0 c1 c2 c3 c4
      generalize wx.alloc (.cells #[.int .i64 M.op, .int .i64 M.f, .int .i64 M.fm, .int .i64 M.t, .int .i64 M.tm] 23) = w3 at *
      obtain ⟨⟨z0, z1, z2, z3, z4⟩, -⟩ := cells5 HZ.out
      go_wp2_with fail
      refine (E1.out _).mono ?_
      rintro e w4 ⟨rfl, hb4⟩
      have HZ4 := Lib.hid (bblock hb4 HZ.out); have HG4 := Lib.hid (bblock hb4 HG'.out); have HC4 := Lib.hid (bblock hb4 HC'.out); have HB4 := Lib.hid (below_call HB'.out hb4)
      clear hb4 HZ HG' HC' HB' z0 z1 z2 z3 z4
      obtain ⟨⟨z0, z1, z2, z3, z4⟩, -⟩ := cells5 HZ4.out
      go_wp2_with fail
      refine (E2.out _).mono ?_
      rintro e w5 ⟨rfl, hb5⟩
      have HZ5 := Lib.hid (bblock hb5 HZ4.out); have HG5 := Lib.hid (bblock hb5 HG4.out); have HC5 := Lib.hid (bblock hb5 HC4.out); have HB5 := Lib.hid (below_call HB4.out hb5)
      clear hb5 HZ4 HG4 HC4 HB4 z0 z1 z2 z3 z4
      go_upto_region 7 with fail
      have p0 := (cell_of_block (k := 0) HZ5.out rfl).1; have p1 := (cell_of_block (k := 1) HZ5.out rfl).1; have p2 := (cell_of_block (k := 2) HZ5.out rfl).1; have p3 := (cell_of_block (k := 3) HZ5.out rfl).1; have p4 := (cell_of_block (k := 4) HZ5.out rfl).1
      have KS : Hid (∀ W, Below w5.heap.size w5 W → (fun w' => w'.cell? ⟨z, 0, none⟩ = some (.int .i64 M.op) ∧ w'.cell? ⟨z, 1, none⟩ = some (.int .i64 M.f) ∧ w'.cell? ⟨z, 2, none⟩ = some (.int .i64 M.fm) ∧ w'.cell? ⟨z, 3, none⟩ = some (.int .i64 M.t) ∧ w'.cell? ⟨z, 4, none⟩ = some (.int .i64 M.tm) ∧ Below w5.heap.size w5 w') W) := Lib.hid (fun W h => ⟨bcell h p0, bcell h p1, bcell h p2, bcell h p3, bcell h p4, h⟩)
      clear p0 p1 p2 p3 p4
      have HR := Lib.hid (Below.refl w5.heap.size w5).drew
      go_region_held3 (fun w' => w'.cell? ⟨z, 0, none⟩ = some (.int .i64 M.op) ∧ w'.cell? ⟨z, 1, none⟩ = some (.int .i64 M.f) ∧ w'.cell? ⟨z, 2, none⟩ = some (.int .i64 M.fm) ∧ w'.cell? ⟨z, 3, none⟩ = some (.int .i64 M.t) ∧ w'.cell? ⟨z, 4, none⟩ = some (.int .i64 M.tm) ∧ Below w5.heap.size w5 w') ((first | with_reducible exact KS.out _ hR2.out | with_reducible exact KS.out _ hR1.out | with_reducible exact KS.out _ HR.out))
        (first | (go_simp; go_at_call 17; have _t := hR1; clear _t; with_reducible refine (V2.out _).mono ?_; rintro e v2 ⟨rfl, hb2⟩; have hR2 := Lib.hid (below_call hR1.out hb2)) | (go_simp; go_at_call 16; with_reducible refine (V1.out _).mono ?_; rintro e v1 ⟨rfl, hb1⟩; have hR1 := Lib.hid (below_call HR.out hb1)))
      all_goals
        go_wp2_with fail
        go_roundw
        case rel => exact ⟨2, by omega, by go_num, bblock hR2.out HG5.out, bblock hR2.out HC5.out, below_call HB5.out hR2.out⟩
        case measure => simp [Go.RowKit.intOf]
    case inr.inr =>
      have c0 : wx.cell? ⟨x0 + 1, 0, none⟩ = some (.int .u8 kd) := (cell_of_block (k := 0) HC.out rfl).1; have c1 : wx.cell? ⟨x0 + 1, 1, none⟩ = some (.int .i64 ad) := (cell_of_block (k := 1) HC.out rfl).1; have c2 : wx.cell? ⟨x0 + 1, 2, none⟩ = some (.int .i64 mc) := (cell_of_block (k := 2) HC.out rfl).1; have c3 : wx.cell? ⟨x0 + 1, 3, none⟩ = some (.int .i64 to_) := (cell_of_block (k := 3) HC.out rfl).1; have c4 : wx.cell? ⟨x0 + 1, 4, none⟩ = some (.int .i64 op) := (cell_of_block (k := 4) HC.out rfl).1; have c5 : wx.cell? ⟨x0 + 1, 5, none⟩ = some (.string cs) := (cell_of_block (k := 5) HC.out rfl).1; have c6 : wx.cell? ⟨x0 + 1, 6, none⟩ = some (.int .i64 ti) := (cell_of_block (k := 6) HC.out rfl).1; have c7 : wx.cell? ⟨x0 + 1, 7, none⟩ = some (.int .i64 a0) := (cell_of_block (k := 7) HC.out rfl).1; have c8 : wx.cell? ⟨x0 + 1, 8, none⟩ = some (.int .i64 a1) := (cell_of_block (k := 8) HC.out rfl).1; have c9 : wx.cell? ⟨x0 + 1, 9, none⟩ = some (.int .i64 a2) := (cell_of_block (k := 9) HC.out rfl).1; have c10 : wx.cell? ⟨x0 + 1, 10, none⟩ = some (.int .i64 a3) := (cell_of_block (k := 10) HC.out rfl).1; have c11 : wx.cell? ⟨x0 + 1, 11, none⟩ = some (.int .i64 a4) := (cell_of_block (k := 11) HC.out rfl).1
      clear HG HC
      obtain ⟨st, er, -, hE2, hz⟩ := enc_both M
      have hz13 := hz HMOK.out
      have E2 := Lib.hid hE2
      have PK : Hid (∀ W, Calls Try.prog 18 #[.int .i64 at_, .int .i64 (st.size : Int)] W fun e w' => e = .returned (.int .i64 (k9 : Int)) ∧ W = w') := Lib.hid (fun W => by rw [hz13]; exact P13.out W)
      have l1 : st.size ≤ 13 := by omega
      have l2 : k9 < st.size := by omega
      clear hz hE2 hz13 P13 b13
      go_wp2_with fail
      refine (PM.out _).mono ?_
      rintro e w3 ⟨rfl, hb3⟩
      have HB3 := Lib.hid (below_call HB.out hb3)
      clear hb3 HB c0 c1 c2 c3 c4 c5 c6 c7 c8 c9 c10 c11
      go_wp2_with fail
      refine (E2.out _).mono ?_
      rintro e w4 ⟨rfl, hb4⟩
      have HB4 := Lib.hid (below_call HB3.out hb4)
      clear hb4 HB3
      go_wp2_with fail
      refine (PK.out _).mono ?_
      rintro e w5 ⟨rfl, rfl⟩
      have hcv := conv_one
      go_upto_region 13 with fail
      clear hcv
      have HB5 := Lib.hid (below_alloc (o := .cells #[.int .u8 by_] 5) HB4.out)
      clear HB4
      have hsg : (⟨#[UInt8.ofNat by_.toNat]⟩ : ByteArray).size = 1 := rfl
      generalize (⟨#[UInt8.ofNat by_.toNat]⟩ : ByteArray) = sg at *
      have l3 : sg.size ≤ 1 := by omega
      clear hsg
      have m1 : (0 : Int) ≤ min (s.size : Int) 30 := by omega
      have m2 : min (s.size : Int) 30 ≤ (s.size : Int) := by omega
      have b1 : (0 : Int) ≤ (k9 : Int) := by omega
      have b2 : (k9 : Int) ≤ (st.size : Int) := by omega
      have b3 : (k9 : Int) + 1 ≤ (st.size : Int) := by omega
      have b4 : (0 : Int) ≤ (k9 : Int) + 1 := by omega
      have b5 : IntKind.i64.wrap ((k9 : Int) + 1) = (k9 : Int) + 1 := IntWalk.i64_in _ (by omega)
      have b6 : ((k9 : Int) + 1).toNat = k9 + 1 := by omega
      have z1 : ¬ 9223372036854775807 < st.size + sg.size := by omega
      have z2 : ¬ 9223372036854775807 < min k9 st.size + sg.size := by omega
      have z3 : ¬ 9223372036854775807 < min k9 st.size + sg.size + (st.size - (k9 + 1)) := by omega
      have z4 : ¬ 9223372036854775807 < min k9 st.size + sg.size + (st.size - k9) := by omega
      generalize w4.alloc (.cells #[.int .u8 by_] 5) = w5 at *
      go_cut [108, 109, 110] (fun s108 s109 s110 wx => ∃ (g2 : Nat) (u0 u1 u2 u3 u4 u5 : ByteArray), s108 = .slice (some ⟨g2, 0, none⟩) 6 6 ∧ s109 = .int .i64 6 ∧ s110 = .int .i64 0 ∧ wx.heap[g2]? = some (.cells #[.string u0, .string u1, .string u2, .string u3, .string u4, .string u5] 9) ∧ (u0.size ≤ 100 ∧ u1.size ≤ 100 ∧ u2.size ≤ 100 ∧ u3.size ≤ 100 ∧ u4.size ≤ 100 ∧ u5.size ≤ 100) ∧ Below w5.heap.size w5 wx)
      case first =>
        go_region
        all_goals
          go_wp2_with fail
          go_meet
          exact ⟨_, _, _, _, _, _, _, rfl, rfl, rfl, alloc_new _ _, (by simp only [ByteArray.size_append, ByteArray.size_extract]; omega), by repeat (first | exact Below.refl _ _ | apply Below.drew | apply below_alloc)⟩
      case rest =>
        obtain ⟨g2, u0, u1, u2, u3, u4, u5, rfl, rfl, rfl, hg2, hu, hb6⟩ := hcut
        obtain ⟨w6, rfl⟩ : ∃ wo : World, wo = wc := ⟨_, rfl⟩
        have HG := Lib.hid hg2; have HB6 := Lib.hid (below_call HB5.out hb6); have HU := Lib.hid hu
        clear hg2 hb6 hu HB5 m1 m2 b1 b2 b3 b4 b5 b6 z1 z2 z3 z4 l1 l2 l3
        have HN : Hid (∀ (wr : World), wr.heap[g2]? = some (.cells #[.string u0, .string u1, .string u2, .string u3, .string u4, .string u5] 9) → ∀ k : Nat, k < 6 → ∃ v : ByteArray, wr.cell? ⟨g2, k, none⟩ = some (.string v) ∧ v.size ≤ 100) := Lib.hid (by
          intro wr hg k hk
          obtain ⟨q0, q1, q2, q3, q4, q5⟩ := HU.out
          have hc : k = 0 ∨ k = 1 ∨ k = 2 ∨ k = 3 ∨ k = 4 ∨ k = 5 := by omega
          rcases hc with rfl | rfl | rfl | rfl | rfl | rfl
          · exact ⟨u0, (cell_of_block (k := 0) hg rfl).1, q0⟩
          · exact ⟨u1, (cell_of_block (k := 1) hg rfl).1, q1⟩
          · exact ⟨u2, (cell_of_block (k := 2) hg rfl).1, q2⟩
          · exact ⟨u3, (cell_of_block (k := 3) hg rfl).1, q3⟩
          · exact ⟨u4, (cell_of_block (k := 4) hg rfl).1, q4⟩
          · exact ⟨u5, (cell_of_block (k := 5) hg rfl).1, q5⟩)
        go_wp2_with fail
        go_loopw [110] (fun i wr => ∃ k : Nat, k ≤ 6 ∧ i = .int .i64 (k : Int) ∧ wr.heap[g2]? = some (.cells #[.string u0, .string u1, .string u2, .string u3, .string u4, .string u5] 9) ∧ Below w.heap.size w wr) (fun i _ => 6 - (Go.RowKit.intOf i).toNat)
        case atStart => exact ⟨0, by omega, rfl, HG.out, HB6.out⟩
        case round =>
          clear HG HB6
          obtain ⟨k, hk, rfl, hg, hb⟩ := hrel
          have HG := Lib.hid hg; have HB := Lib.hid hb; clear hg hb
          obtain ⟨wx, rfl⟩ : ∃ wo : World, wo = wr := ⟨_, rfl⟩
          by_cases h6 : k < 6
          · obtain ⟨v, hv, hvs⟩ := HN.out _ HG.out k h6
            obtain ⟨d, e0, hD1, hD2⟩ := dec_both v (by omega)
            have D1 := Lib.hid hD1; have D2 := Lib.hid hD2
            have HVE := Lib.hid hvs
            clear hD1 hD2 hvs
            go_wp2_with fail
            refine (D1.out _).mono ?_
            rintro e w7 ⟨rfl, hb7⟩
            have HG7 := Lib.hid (bblock hb7 HG.out); have HB7 := Lib.hid (below_call HB.out hb7)
            clear hb7 HG HB hv
            have HZ := Lib.hid (alloc_new w7 (.cells #[.int .i64 d.op, .int .i64 d.f, .int .i64 d.fm, .int .i64 d.t, .int .i64 d.tm] 23))
            have HG8 := Lib.hid (block_alloc HG7.out (.cells #[.int .i64 d.op, .int .i64 d.f, .int .i64 d.fm, .int .i64 d.t, .int .i64 d.tm] 23)); have HB8 := Lib.hid (below_alloc (o := .cells #[.int .i64 d.op, .int .i64 d.f, .int .i64 d.fm, .int .i64 d.t, .int .i64 d.tm] 23) HB7.out)
            obtain ⟨z, hz⟩ : ∃ z, w7.heap.size = z := ⟨_, rfl⟩
            rw [hz] at HZ
            have HZE := Lib.hid hz
            clear hz HG7 HB7
            go_upto_region 17 with fail
            rw [HZE.out]
            generalize w7.alloc (.cells #[.int .i64 d.op, .int .i64 d.f, .int .i64 d.fm, .int .i64 d.t, .int .i64 d.tm] 23) = w8 at *
            go_wp2_with fail
            refine (D2.out _).mono ?_
            rintro e w9 ⟨rfl, hb9⟩
            have HZ9 := Lib.hid (block_alloc (bblock hb9 HZ.out) (.cells #[.int .i64 d.op, .int .i64 d.f, .int .i64 d.fm, .int .i64 d.t, .int .i64 d.tm] 23)); have HG9 := Lib.hid (block_alloc (bblock hb9 HG8.out) (.cells #[.int .i64 d.op, .int .i64 d.f, .int .i64 d.fm, .int .i64 d.t, .int .i64 d.tm] 23)); have HB9 := Lib.hid (below_alloc (o := .cells #[.int .i64 d.op, .int .i64 d.f, .int .i64 d.fm, .int .i64 d.t, .int .i64 d.tm] 23) (below_call HB8.out hb9))
            have HY := Lib.hid (alloc_new w9 (.cells #[.int .i64 d.op, .int .i64 d.f, .int .i64 d.fm, .int .i64 d.t, .int .i64 d.tm] 23))
            obtain ⟨y, hy⟩ : ∃ y, w9.heap.size = y := ⟨_, rfl⟩
            rw [hy] at HY
            have HYE := Lib.hid hy
            clear hy hb9 HZ HG8 HB8
            go_upto_region 18 with fail
            rw [HYE.out]
            generalize w9.alloc (.cells #[.int .i64 d.op, .int .i64 d.f, .int .i64 d.fm, .int .i64 d.t, .int .i64 d.tm] 23) = w10 at *
            obtain ⟨⟨z0, z1, z2, z3, z4⟩, -⟩ := cells5 HZ9.out
            obtain ⟨⟨y0, y1, y2, y3, y4⟩, -⟩ := cells5 HY.out
            have heq := eqAm d d
            rw [show amEqB d d = true from (amEqB_iff d d).2 rfl] at heq
            go_wp2_with fail
            go_roundw
            case rel => exact ⟨k + 1, by omega, by go_num, HG9.out, HB9.out⟩
            case measure => simp [Go.RowKit.intOf]; omega
          · go_wp2_with fail
            go_ret
            exact ⟨rfl, HB.out⟩
end Go.Proofs.Ytjdoemmfemogmaa.Ar
