/-
  The helpers address, short and Message of the laws of chapter 05.
-/
import Derived.Test.YtjdoemmfemogmaaArGen
import Derived.Test.YtjdoemmfemogmaaStore
import Derived.Deep.RegionHeld3
import Derived.Deep.DeepCutAuto
namespace Go.Proofs.Ytjdoemmfemogmaa.Ar
set_option maxRecDepth 100000
open Go.RowKit Go.Proofs.Ytjdoemmfemogmaa.Wire

/-- one of 24 addresses -/
def addrN (n : Int) : Int := 10 + pick n 24
theorem addrN_bd (n : Int) : 10 ≤ addrN n ∧ addrN n ≤ 33 := by have := pick_lt n 24 (by omega); unfold addrN; omega
theorem address_any (n : Int) (w : World) (hn : In64 n) : Calls Try.prog 30 #[.int .i64 n] w fun e w' => e = .returned (.int .i64 (addrN n)) ∧ w = w' := by
  have hb := pick_lt n 24 (by omega)
  have P := Lib.hid (fun W => pick_any n 24 W hn (by omega) (by omega))
  unfold addrN
  generalize pick n 24 = z at *
  have hw : IntKind.i64.wrap (10 + z) = 10 + z := IntWalk.i64_in _ (by omega)
  go_enter Try.func30, Try.ntmps30
  go_wp2_with (go_at_call 18; (with_reducible refine (P.out _).mono ?_); rintro e w' ⟨rfl, rfl⟩)
  go_ret
  exact ⟨rfl, rfl⟩
/-- the first 20 bytes -/
def shortS (s : ByteArray) : ByteArray := s.extract 0 (min s.size 20)
/-- a call, as it is given -/
structure Cl where
  kd : Nat
  ad : Int
  mc : Int
  to_ : Int
  op : Int
  s : ByteArray
  ti : Int
  a0 : Int
  a1 : Int
  a2 : Int
  a3 : Int
  a4 : Int
/-- the message of a call -/
def msgC (ad mc to_ op : Int) : Am := ⟨1 + pick op 2, addrN ad, 1 + pick mc 9, if pick to_ 4 = 0 then addrN (to_.tdiv 4) else 10, if 1 + pick op 2 = 2 then 1 + pick to_ 9 else 0⟩
theorem msgC_ok (ad mc to_ op : Int) : (msgC ad mc to_ op).ok := by
  have h1 := pick_lt op 2 (by omega); have h2 := addrN_bd ad; have h3 := pick_lt mc 9 (by omega); have h4 := addrN_bd (to_.tdiv 4); have h5 := pick_lt to_ 9 (by omega)
  unfold msgC Am.ok
  dsimp only
  refine ⟨by omega, ?_, by omega, ?_⟩
  · split <;> omega
  · split <;> omega
theorem tdiv_in (x : Int) (n : Int) (hn : 1 ≤ n) (h : In64 x) : In64 (x.tdiv n) := by
  unfold In64 at *
  rcases Int.le_total 0 x with q | q
  · rw [Int.tdiv_eq_ediv_of_nonneg q]
    have h1 := Int.ediv_nonneg q (show (0 : Int) ≤ n by omega)
    have h2 := Int.ediv_le_self n q
    omega
  · have e : x = -(-x) := by omega
    rw [e, Int.neg_tdiv, Int.tdiv_eq_ediv_of_nonneg (by omega)]
    have h1 := Int.ediv_nonneg (show (0 : Int) ≤ -x by omega) (show (0 : Int) ≤ n by omega)
    have h2 := Int.ediv_le_self n (show (0 : Int) ≤ -x by omega)
    omega
theorem infoM5 : (Try.prog.info? 23).map (·.size) = some 5 := by kernel_rfl
set_option maxHeartbeats 8000000 in
theorem message_any (kd : Int) (ad mc to_ op : Int) (s : ByteArray) (ti a0 a1 a2 a3 a4 : Int) (w : World) (h1 : In64 ad) (h2 : In64 mc) (h3 : In64 to_) (h4 : In64 op) :
    Calls Try.prog 13 #[.agg #[.int .u8 kd, .int .i64 ad, .int .i64 mc, .int .i64 to_, .int .i64 op, .string s, .int .i64 ti, .int .i64 a0, .int .i64 a1, .int .i64 a2, .int .i64 a3, .int .i64 a4]] w fun e w' => e = .returned (.agg #[.int .i64 (msgC ad mc to_ op).op, .int .i64 (msgC ad mc to_ op).f, .int .i64 (msgC ad mc to_ op).fm, .int .i64 (msgC ad mc to_ op).t, .int .i64 (msgC ad mc to_ op).tm]) ∧ Below w.heap.size w w' := by
  have b2 := pick_lt op 2 (by omega); have b24 := pick_lt ad 24 (by omega); have b9 := pick_lt mc 9 (by omega); have b4 := pick_lt to_ 4 (by omega); have b19 := pick_lt to_ 9 (by omega); have bd := addrN_bd (to_.tdiv 4)
  have P2 := Lib.hid (fun W => pick_any op 2 W h4 (by omega) (by omega))
  have PA := Lib.hid (fun W => address_any ad W h1)
  have P9 := Lib.hid (fun W => pick_any mc 9 W h2 (by omega) (by omega))
  have P4 := Lib.hid (fun W => pick_any to_ 4 W h3 (by omega) (by omega))
  have P19 := Lib.hid (fun W => pick_any to_ 9 W h3 (by omega) (by omega))
  have PB := Lib.hid (fun W => address_any (to_.tdiv 4) W (tdiv_in to_ 4 (by omega) h3))
  have htd := tdiv_in to_ 4 (by omega) h3
  unfold In64 at htd
  have hwt : IntKind.i64.wrap (to_.tdiv 4) = to_.tdiv 4 := IntWalk.i64_in _ (by omega)
  unfold msgC
  dsimp only
  unfold addrN at PA
  generalize addrN (to_.tdiv 4) = ab at *
  unfold addrN
  generalize pick op 2 = p2 at *
  generalize pick ad 24 = p24 at *
  generalize pick mc 9 = p9 at *
  generalize pick to_ 4 = p4 at *
  generalize pick to_ 9 = p19 at *
  have w2 : IntKind.i64.wrap (1 + p2) = 1 + p2 := IntWalk.i64_in _ (by omega)
  have w9 : IntKind.i64.wrap (1 + p9) = 1 + p9 := IntWalk.i64_in _ (by omega)
  have w19 : IntKind.i64.wrap (1 + p19) = 1 + p19 := IntWalk.i64_in _ (by omega)
  obtain ⟨t9, ht9⟩ : ∃ t9, (if p4 = 0 then ab else 10) = t9 := ⟨_, rfl⟩
  obtain ⟨tm9, htm9⟩ : ∃ tm9, (if 1 + p2 = 2 then 1 + p19 else 0) = tm9 := ⟨_, rfl⟩
  rw [ht9, htm9]
  have HT9 := Lib.hid ht9; have HTM9 := Lib.hid htm9
  clear h1 h2 h3 h4 ht9 htm9
  go_enter Try.func13, Try.ntmps13
  have HC := Lib.hid (block_alloc (alloc_new w (.cells #[.int .u8 kd, .int .i64 ad, .int .i64 mc, .int .i64 to_, .int .i64 op, .string s, .int .i64 ti, .int .i64 a0, .int .i64 a1, .int .i64 a2, .int .i64 a3, .int .i64 a4] 25)) (.cells #[.int .i64 0, .int .i64 0, .int .i64 0, .int .i64 0, .int .i64 0] 23))
  have HZ := Lib.hid (alloc_new' (w.alloc (.cells #[.int .u8 kd, .int .i64 ad, .int .i64 mc, .int .i64 to_, .int .i64 op, .string s, .int .i64 ti, .int .i64 a0, .int .i64 a1, .int .i64 a2, .int .i64 a3, .int .i64 a4] 25)) (.cells #[.int .i64 0, .int .i64 0, .int .i64 0, .int .i64 0, .int .i64 0] 23) (w.heap.size + 1) (by simp))
  have HB := Lib.hid (below_alloc (o := .cells #[.int .i64 0, .int .i64 0, .int .i64 0, .int .i64 0, .int .i64 0] 23) (below_alloc (o := .cells #[.int .u8 kd, .int .i64 ad, .int .i64 mc, .int .i64 to_, .int .i64 op, .string s, .int .i64 ti, .int .i64 a0, .int .i64 a1, .int .i64 a2, .int .i64 a3, .int .i64 a4] 25) (Below.refl w.heap.size w)))
  obtain ⟨x, hx⟩ : ∃ x, w.heap.size = x := ⟨_, rfl⟩
  rw [hx] at HC HZ
  have HXE := Lib.hid hx
  clear hx
  go_upto_region 1 with fail
  rw [HXE.out]
  generalize (w.alloc (.cells #[.int .u8 kd, .int .i64 ad, .int .i64 mc, .int .i64 to_, .int .i64 op, .string s, .int .i64 ti, .int .i64 a0, .int .i64 a1, .int .i64 a2, .int .i64 a3, .int .i64 a4] 25)).alloc (.cells #[.int .i64 0, .int .i64 0, .int .i64 0, .int .i64 0, .int .i64 0] 23) = w1 at *
  go_cut [3] (fun s wx => ∃ b, s = .pointer (some ⟨b, 0, none⟩) ∧ wx.heap[b]? = some (.cells #[.int .i64 (1 + p2), .int .i64 (10 + p24), .int .i64 (1 + p9), .int .i64 10, .int .i64 0] 23) ∧ Below w1.heap.size w1 wx ∧ w1.heap.size ≤ b)
  case first =>
    have g1 : Hid (w1.drew.cell? ⟨x, 1, none⟩ = some (.int .i64 ad)) := Lib.hid (cell_of_block (k := 1) HC.out rfl).1; have g2 : Hid (w1.drew.cell? ⟨x, 2, none⟩ = some (.int .i64 mc)) := Lib.hid (cell_of_block (k := 2) HC.out rfl).1; have g4 : Hid (w1.drew.cell? ⟨x, 4, none⟩ = some (.int .i64 op)) := Lib.hid (cell_of_block (k := 4) HC.out rfl).1
    have y1 : Hid (∀ o, ((w1.alloc o).drew).cell? ⟨x, 1, none⟩ = some (.int .i64 ad)) := Lib.hid (fun o => cell_alloc' o (cell_of_block (k := 1) HC.out rfl).1); have y2 : Hid (∀ o, ((w1.alloc o).drew).cell? ⟨x, 2, none⟩ = some (.int .i64 mc)) := Lib.hid (fun o => cell_alloc' o (cell_of_block (k := 2) HC.out rfl).1); have y4 : Hid (∀ o, ((w1.alloc o).drew).cell? ⟨x, 4, none⟩ = some (.int .i64 op)) := Lib.hid (fun o => cell_alloc' o (cell_of_block (k := 4) HC.out rfl).1)
    go_region_held3 (fun w' => w'.cell? ⟨x, 1, none⟩ = some (.int .i64 ad) ∧ w'.cell? ⟨x, 2, none⟩ = some (.int .i64 mc) ∧ w'.cell? ⟨x, 4, none⟩ = some (.int .i64 op)) ((first | with_reducible exact ⟨g1.out, g2.out, g4.out⟩ | with_reducible exact ⟨y1.out _, y2.out _, y4.out _⟩))
      (first | (go_simp; go_at_call 18; with_reducible refine (P2.out _).mono ?_; rintro e v ⟨rfl, rfl⟩) | (go_simp; go_at_call 30; with_reducible refine (PA.out _).mono ?_; rintro e v ⟨rfl, rfl⟩) | (go_simp; go_at_call 18; with_reducible refine (P9.out _).mono ?_; rintro e v ⟨rfl, rfl⟩))
    all_goals
      go_wp2_with fail
      go_meet
      exact ⟨_, rfl, alloc_new _ _, (below_alloc (Below.refl _ _)).drew, Nat.le_refl _⟩
  case rest =>
    obtain ⟨b, rfl, hb, hbel, hlb⟩ := hcut
    obtain ⟨w2, rfl⟩ : ∃ wo : World, wo = wc := ⟨_, rfl⟩
    have HC2 := Lib.hid (bblock hbel HC.out); have HZ2 := Lib.hid (bblock hbel HZ.out); have HB2 := Lib.hid (below_call HB.out hbel); have HM2 := Lib.hid hb
    have hxb : x + 1 < b := by have := blk_lt HZ.out; omega
    clear hb hbel HC HZ HB P2 PA P9
    have q3 : w2.cell? ⟨x, 3, none⟩ = some (.int .i64 to_) := (cell_of_block (k := 3) HC2.out rfl).1
    have hcl := blk_lt HC2.out
    by_cases hz : p4 = 0
    · have c1 : (p4 == 0) = true := beq_iff_eq.2 hz
      have HZF := Lib.hid hz
      clear hz
      by_cases h2 : 1 + p2 = 2
      · have c2 : (1 + p2 == 2) = true := beq_iff_eq.2 h2
        have H2F := Lib.hid h2
        clear h2
        have hb4 := blk_lt HM2.out
        obtain ⟨⟨m0, m1, m2, m3, m4⟩, z0, z1, z2, z3, z4⟩ := cells5 HM2.out
        go_upto_region 3 with (go_at_call 18; (with_reducible refine (P4.out _).mono ?_); rintro e w' ⟨rfl, rfl⟩)
        go_upto_region 4 with (go_at_call 30; (with_reducible refine (PB.out _).mono ?_); rintro e w' ⟨rfl, rfl⟩)
        clear m0 m1 m2 m3 m4 z0 z1 z2 z3 z4
        have HM3 := Lib.hid (cells_eq (b := #[.int .i64 (1 + p2), .int .i64 (10 + p24), .int .i64 (1 + p9), .int .i64 ab, .int .i64 0]) (block_setCell (k := 3) (v := .int .i64 ab) HM2.out) (by simp))
        have HC3 := Lib.hid (block_set_other (a := ⟨b, 3, none⟩) (u := .int .i64 ab) HC2.out (by show b ≠ x; omega)); have HZ3 := Lib.hid (block_set_other (a := ⟨b, 3, none⟩) (u := .int .i64 ab) HZ2.out (by show b ≠ x + 1; omega))
        have HB3 := Lib.hid (HB2.out.setCell (p := ⟨b, 3, none⟩) (by have := HXE.out; show w.heap.size ≤ b; omega) (.int .i64 ab))
        clear HM2 HC2 HZ2 HB2
        generalize World.setCell w2 ⟨b, 3, none⟩ (.int .i64 ab) = w3 at *
        obtain ⟨⟨m0, m1, m2, m3, m4⟩, z0, z1, z2, z3, z4⟩ := cells5 HM3.out
        have q3 : w3.cell? ⟨x, 3, none⟩ = some (.int .i64 to_) := (cell_of_block (k := 3) HC3.out rfl).1
        go_upto_region 6 with (go_at_call 18; (with_reducible refine (P19.out _).mono ?_); rintro e w' ⟨rfl, rfl⟩)
        have HM4 := Lib.hid (cells_eq (b := #[.int .i64 (1 + p2), .int .i64 (10 + p24), .int .i64 (1 + p9), .int .i64 ab, .int .i64 (1 + p19)]) (block_setCell (k := 4) (v := .int .i64 (1 + p19)) HM3.out) (by simp))
        have HZ4 := Lib.hid (block_set_other (a := ⟨b, 4, none⟩) (u := .int .i64 (1 + p19)) HZ3.out (by show b ≠ x + 1; omega))
        have HB4 := Lib.hid (HB3.out.setCell (p := ⟨b, 4, none⟩) (by have := HXE.out; show w.heap.size ≤ b; omega) (.int .i64 (1 + p19)))
        clear m0 m1 m2 m3 m4 z0 z1 z2 z3 z4 q3 HM3 HC3 HZ3 HB3
        generalize World.setCell w3 ⟨b, 4, none⟩ (.int .i64 (1 + p19)) = w4 at *
        obtain ⟨⟨m0, m1, m2, m3, m4⟩, -⟩ := cells5 HM4.out
        obtain ⟨⟨r0, r1, r2, r3, r4⟩, z0, z1, z2, z3, z4⟩ := cells5 HZ4.out
        go_wp2_with fail
        have HR := Lib.hid (stN_all [.int .i64 (1 + p2), .int .i64 (10 + p24), .int .i64 (1 + p9), .int .i64 ab, .int .i64 (1 + p19)] HZ4.out rfl)
        refine bodyPost_ret (v := .agg #[.int .i64 (1 + p2), .int .i64 (10 + p24), .int .i64 (1 + p9), .int .i64 ab, .int .i64 (1 + p19)]) (res_cell1 Try.results13 (by exact HR.out) rfl Try.underlying23 rfl infoM5) rfl ?_
        exact ⟨by rw [← HT9.out, ← HTM9.out]; simp [HZF.out, H2F.out], stN_below (B := x + 1) (by have := HXE.out; omega) [.int .i64 (1 + p2), .int .i64 (10 + p24), .int .i64 (1 + p9), .int .i64 ab, .int .i64 (1 + p19)] _ 0 HB4.out⟩
      · have c2 : (1 + p2 == 2) = false := beq_eq_false_iff_ne.2 h2
        have H2F := Lib.hid h2
        clear h2
        have hb4 := blk_lt HM2.out
        obtain ⟨⟨m0, m1, m2, m3, m4⟩, z0, z1, z2, z3, z4⟩ := cells5 HM2.out
        go_upto_region 3 with (go_at_call 18; (with_reducible refine (P4.out _).mono ?_); rintro e w' ⟨rfl, rfl⟩)
        go_upto_region 4 with (go_at_call 30; (with_reducible refine (PB.out _).mono ?_); rintro e w' ⟨rfl, rfl⟩)
        clear m0 m1 m2 m3 m4 z0 z1 z2 z3 z4
        have HM3 := Lib.hid (cells_eq (b := #[.int .i64 (1 + p2), .int .i64 (10 + p24), .int .i64 (1 + p9), .int .i64 ab, .int .i64 0]) (block_setCell (k := 3) (v := .int .i64 ab) HM2.out) (by simp))
        have HC3 := Lib.hid (block_set_other (a := ⟨b, 3, none⟩) (u := .int .i64 ab) HC2.out (by show b ≠ x; omega)); have HZ3 := Lib.hid (block_set_other (a := ⟨b, 3, none⟩) (u := .int .i64 ab) HZ2.out (by show b ≠ x + 1; omega))
        have HB3 := Lib.hid (HB2.out.setCell (p := ⟨b, 3, none⟩) (by have := HXE.out; show w.heap.size ≤ b; omega) (.int .i64 ab))
        clear HM2 HC2 HZ2 HB2
        generalize World.setCell w2 ⟨b, 3, none⟩ (.int .i64 ab) = w3 at *
        obtain ⟨⟨m0, m1, m2, m3, m4⟩, z0, z1, z2, z3, z4⟩ := cells5 HM3.out
        have q3 : w3.cell? ⟨x, 3, none⟩ = some (.int .i64 to_) := (cell_of_block (k := 3) HC3.out rfl).1
        go_upto_region 6 with fail
        have HM4 := HM3; have HZ4 := HZ3; have HB4 := HB3
        clear m0 m1 m2 m3 m4 z0 z1 z2 z3 z4 q3 HM3 HC3 HZ3 HB3
        obtain ⟨w4, rfl⟩ : ∃ w4, w4 = w3 := ⟨_, rfl⟩
        obtain ⟨⟨m0, m1, m2, m3, m4⟩, -⟩ := cells5 HM4.out
        obtain ⟨⟨r0, r1, r2, r3, r4⟩, z0, z1, z2, z3, z4⟩ := cells5 HZ4.out
        go_wp2_with fail
        have HR := Lib.hid (stN_all [.int .i64 (1 + p2), .int .i64 (10 + p24), .int .i64 (1 + p9), .int .i64 ab, .int .i64 0] HZ4.out rfl)
        refine bodyPost_ret (v := .agg #[.int .i64 (1 + p2), .int .i64 (10 + p24), .int .i64 (1 + p9), .int .i64 ab, .int .i64 0]) (res_cell1 Try.results13 (by exact HR.out) rfl Try.underlying23 rfl infoM5) rfl ?_
        exact ⟨by rw [← HT9.out, ← HTM9.out]; simp [HZF.out, H2F.out], stN_below (B := x + 1) (by have := HXE.out; omega) [.int .i64 (1 + p2), .int .i64 (10 + p24), .int .i64 (1 + p9), .int .i64 ab, .int .i64 0] _ 0 HB4.out⟩
    · have c1 : (p4 == 0) = false := beq_eq_false_iff_ne.2 hz
      have HZF := Lib.hid hz
      clear hz
      by_cases h2 : 1 + p2 = 2
      · have c2 : (1 + p2 == 2) = true := beq_iff_eq.2 h2
        have H2F := Lib.hid h2
        clear h2
        go_upto_region 4 with (go_at_call 18; (with_reducible refine (P4.out _).mono ?_); rintro e w' ⟨rfl, rfl⟩)
        have HM3 := HM2; have HC3 := HC2; have HZ3 := HZ2; have HB3 := HB2
        clear HM2 HC2 HZ2 HB2
        obtain ⟨w3, rfl⟩ : ∃ w3, w3 = w2 := ⟨_, rfl⟩
        obtain ⟨⟨m0, m1, m2, m3, m4⟩, z0, z1, z2, z3, z4⟩ := cells5 HM3.out
        have q3 : w3.cell? ⟨x, 3, none⟩ = some (.int .i64 to_) := (cell_of_block (k := 3) HC3.out rfl).1
        go_upto_region 6 with (go_at_call 18; (with_reducible refine (P19.out _).mono ?_); rintro e w' ⟨rfl, rfl⟩)
        have HM4 := Lib.hid (cells_eq (b := #[.int .i64 (1 + p2), .int .i64 (10 + p24), .int .i64 (1 + p9), .int .i64 10, .int .i64 (1 + p19)]) (block_setCell (k := 4) (v := .int .i64 (1 + p19)) HM3.out) (by simp))
        have HZ4 := Lib.hid (block_set_other (a := ⟨b, 4, none⟩) (u := .int .i64 (1 + p19)) HZ3.out (by show b ≠ x + 1; omega))
        have HB4 := Lib.hid (HB3.out.setCell (p := ⟨b, 4, none⟩) (by have := HXE.out; show w.heap.size ≤ b; omega) (.int .i64 (1 + p19)))
        clear m0 m1 m2 m3 m4 z0 z1 z2 z3 z4 q3 HM3 HC3 HZ3 HB3
        generalize World.setCell w3 ⟨b, 4, none⟩ (.int .i64 (1 + p19)) = w4 at *
        obtain ⟨⟨m0, m1, m2, m3, m4⟩, -⟩ := cells5 HM4.out
        obtain ⟨⟨r0, r1, r2, r3, r4⟩, z0, z1, z2, z3, z4⟩ := cells5 HZ4.out
        go_wp2_with fail
        have HR := Lib.hid (stN_all [.int .i64 (1 + p2), .int .i64 (10 + p24), .int .i64 (1 + p9), .int .i64 10, .int .i64 (1 + p19)] HZ4.out rfl)
        refine bodyPost_ret (v := .agg #[.int .i64 (1 + p2), .int .i64 (10 + p24), .int .i64 (1 + p9), .int .i64 10, .int .i64 (1 + p19)]) (res_cell1 Try.results13 (by exact HR.out) rfl Try.underlying23 rfl infoM5) rfl ?_
        exact ⟨by rw [← HT9.out, ← HTM9.out]; simp [HZF.out, H2F.out], stN_below (B := x + 1) (by have := HXE.out; omega) [.int .i64 (1 + p2), .int .i64 (10 + p24), .int .i64 (1 + p9), .int .i64 10, .int .i64 (1 + p19)] _ 0 HB4.out⟩
      · have c2 : (1 + p2 == 2) = false := beq_eq_false_iff_ne.2 h2
        have H2F := Lib.hid h2
        clear h2
        go_upto_region 4 with (go_at_call 18; (with_reducible refine (P4.out _).mono ?_); rintro e w' ⟨rfl, rfl⟩)
        have HM3 := HM2; have HC3 := HC2; have HZ3 := HZ2; have HB3 := HB2
        clear HM2 HC2 HZ2 HB2
        obtain ⟨w3, rfl⟩ : ∃ w3, w3 = w2 := ⟨_, rfl⟩
        obtain ⟨⟨m0, m1, m2, m3, m4⟩, z0, z1, z2, z3, z4⟩ := cells5 HM3.out
        have q3 : w3.cell? ⟨x, 3, none⟩ = some (.int .i64 to_) := (cell_of_block (k := 3) HC3.out rfl).1
        go_upto_region 6 with fail
        have HM4 := HM3; have HZ4 := HZ3; have HB4 := HB3
        clear m0 m1 m2 m3 m4 z0 z1 z2 z3 z4 q3 HM3 HC3 HZ3 HB3
        obtain ⟨w4, rfl⟩ : ∃ w4, w4 = w3 := ⟨_, rfl⟩
        obtain ⟨⟨m0, m1, m2, m3, m4⟩, -⟩ := cells5 HM4.out
        obtain ⟨⟨r0, r1, r2, r3, r4⟩, z0, z1, z2, z3, z4⟩ := cells5 HZ4.out
        go_wp2_with fail
        have HR := Lib.hid (stN_all [.int .i64 (1 + p2), .int .i64 (10 + p24), .int .i64 (1 + p9), .int .i64 10, .int .i64 0] HZ4.out rfl)
        refine bodyPost_ret (v := .agg #[.int .i64 (1 + p2), .int .i64 (10 + p24), .int .i64 (1 + p9), .int .i64 10, .int .i64 0]) (res_cell1 Try.results13 (by exact HR.out) rfl Try.underlying23 rfl infoM5) rfl ?_
        exact ⟨by rw [← HT9.out, ← HTM9.out]; simp [HZF.out, H2F.out], stN_below (B := x + 1) (by have := HXE.out; omega) [.int .i64 (1 + p2), .int .i64 (10 + p24), .int .i64 (1 + p9), .int .i64 10, .int .i64 0] _ 0 HB4.out⟩
end Go.Proofs.Ytjdoemmfemogmaa.Ar
