/-
  The reference's Encode of a valid message.
-/
import Derived.Test.YthdggmigjddneaaDnRen
import Derived.Deep.CutRange
namespace Go.Proofs.Ythdggmigjddneaa.Dn
set_option maxRecDepth 100000
open Go.RowKit Go.Proofs.Ythdggmigjddneaa.Wire Go.Proofs.Ythdggmigjddneaa.Rw

set_option maxHeartbeats 8000000 in
theorem rencode_ok (d : Msg) (A : Option Addr) (c lo : Nat) (w : World) (hf : d.fits) (hr : RRow w lo A c d.recs) (h : msgB d = true) :
    Calls Try.prog 16 #[.agg (mcells d A c).toArray] w fun e w' => e = .returned (.tuple #[.string ⟨(enc d).toArray⟩, .int .i64 0]) ∧ Below w.heap.size w w' := by
  have hb0 := (Below.refl w.heap.size w).alloc (Nat.le_refl _) (.cells (mcells d A c).toArray 27)
  have HV := Lib.hid (h ▸ rvalid_any d A c lo _ hf (hr.below hb0))
  obtain ⟨h1, h2, h3, h4, hall, -⟩ := (msgB_iff d).1 h
  obtain ⟨id, ans, code, nm, kd, recs⟩ := d
  unfold mcells at *
  dsimp only at h1 h2 h3 h4 hall hr
  have H1 := Lib.hid fun W => dput_ok id 2 W (by omega) (by omega) (by omega) (by show id < 65536; omega)
  have H2 := Lib.hid fun W => dput_ok (ansN ans) 1 W (by omega) (by omega) (by unfold ansN; split <;> omega) (by show ansN ans < 256; unfold ansN; split <;> omega)
  have H3 := Lib.hid fun W => dput_ok code 1 W (by omega) (by omega) (by omega) (by show code < 256; omega)
  have H4 := Lib.hid fun W => dput_ok kd 1 W (by omega) (by omega) (by omega) (by show kd < 256; omega)
  have H5 := Lib.hid fun W => rname_any nm W h2
  have H6 := Lib.hid fun W => dput_ok (recs.length : Int) 1 W (by omega) (by omega) (by omega) (by show (recs.length : Int) < 256; omega)
  rw [show ((1 : Nat) : Int) = 1 from rfl] at H2 H3 H4 H6
  rw [show ((2 : Nat) : Int) = 2 from rfl] at H1
  have l1 := be_length 2 id; have l2 := be_length 1 (ansN ans); have l3 := be_length 1 code; have l4 := be_length 1 kd; have l6 := be_length 1 (recs.length : Int)
  have l5 := encName_len nm
  have h60 := name_len h2
  have HE : Hid (enc ⟨id, ans, code, nm, kd, recs⟩ = be 2 id ++ (be 1 (ansN ans) ++ (be 1 code ++ (be 1 kd ++ (encName nm ++ (be 1 recs.length ++ recs.flatMap encRec)))))) := Lib.hid rfl
  generalize enc ⟨id, ans, code, nm, kd, recs⟩ = EN at *
  generalize be 2 id = B1 at *
  generalize be 1 (ansN ans) = B2 at *
  generalize be 1 code = B3 at *
  generalize be 1 kd = B4 at *
  generalize be 1 (recs.length : Int) = B6 at *
  generalize encName nm = B5 at *
  have z5 : ¬ 9223372036854775807 < 5 + B5.length := by omega
  have z6 : ¬ 9223372036854775807 < 5 + B5.length + 1 := by omega
  have z7 : ¬ 9223372036854775807 < 5 + (nm.length + 2) := by omega
  have z8 : ¬ 9223372036854775807 < 5 + (nm.length + 2) + 1 := by omega
  have Hm := Lib.hid (alloc_new w (.cells #[.int .i64 id, .bool ans, .int .i64 code, .string ⟨nm.toArray⟩, .int .i64 kd, .slice A recs.length c] 27))
  have HRow := Lib.hid hr
  clear hf hr h h2
  go_enter Try.func16, Try.ntmps16
  go_wp2_with fail
  refine HV.out.mono ?_
  rintro e w1 ⟨rfl, hb⟩
  have Hmd := Lib.hid (bblock hb Hm.out); clear Hm; have Hm := Hmd; clear Hmd
  have HB := Lib.hid (below_call hb0 hb)
  clear hb0 hb
  have ma := (cell_of_block (k := 1) Hm.out rfl).1
  go_upto_if 12 with fail
  go_cut [4] (fun s4 wx => s4 = .int .i64 (ansN ans) ∧ wx = w1)
  case first =>
    cases ans <;> (go_wp2_with fail; go_meet; exact ⟨rfl, rfl⟩)
  case rest =>
  obtain ⟨rfl, rfl⟩ := hcut
  clear ma
  go_upto_region 6 with fail
  go_cut [5] from 13 (fun s5 wx => s5 = .string ⟨(B1 ++ (B2 ++ (B3 ++ (B4 ++ (B5 ++ B6))))).toArray⟩ ∧ wx.heap[w.heap.size]? = some (.cells #[.int .i64 id, .bool ans, .int .i64 code, .string ⟨nm.toArray⟩, .int .i64 kd, .slice A recs.length c] 27) ∧ Below w.heap.size w wx)
  case first =>
    refine wp_region_held_drew (S := fun w' => w'.cell? ⟨w.heap.size, 0, none⟩ = some (.int .i64 id) ∧ w'.cell? ⟨w.heap.size, 2, none⟩ = some (.int .i64 code) ∧ w'.cell? ⟨w.heap.size, 3, none⟩ = some (.string ⟨nm.toArray⟩) ∧ w'.cell? ⟨w.heap.size, 4, none⟩ = some (.int .i64 kd) ∧ w'.cell? ⟨w.heap.size, 5, none⟩ = some (.slice A recs.length c)) (by kernel_rfl) (⟨(cell_of_block (k := 0) Hm.out rfl).1, (cell_of_block (k := 2) Hm.out rfl).1, (cell_of_block (k := 3) Hm.out rfl).1, (cell_of_block (k := 4) Hm.out rfl).1, (cell_of_block (k := 5) Hm.out rfl).1⟩) ?_
    intro hS
    have hw := HB.out.drew; have HBd := Lib.hid hw; clear hw HB; have HB := HBd; clear HBd
    have Hmd : Hid (wc.drew.heap[w.heap.size]? = _) := Lib.hid Hm.out; clear Hm; have Hm := Hmd; clear Hmd
    generalize wc.drew = wd at *
    refine wpAnyH_take (i := 0) (oi := ⟨some 13, _, _, _, _, _⟩) (v := ?vt1x0) rfl (by kernel_rfl) (by kernel_rfl) (by kernel_rfl) (fun _ _ _ h => h) (Or.inl ⟨by rfl, ?hyt1x0⟩) (by exact hS) ?ret1x0
    case hyt1x0 => (intro ww hSw; (try dsimp only at hSw); go_simp; first | done | with_reducible rfl)
    try simp only [Act.put, List.setIfInBounds_toArray, List.set_cons_zero, List.set_cons_succ]
    refine wpAnyH_take (i := 1) (oi := ⟨some 14, _, _, _, _, _⟩) (v := ?vt1x1) rfl (by kernel_rfl) (by kernel_rfl) (by kernel_rfl) (fun _ _ _ h => h) (Or.inl ⟨by rfl, ?hyt1x1⟩) (by exact hS) ?ret1x1
    case hyt1x1 => (intro ww hSw; (try dsimp only at hSw); go_simp; first | done | with_reducible rfl)
    try simp only [Act.put, List.setIfInBounds_toArray, List.set_cons_zero, List.set_cons_succ]
    refine wpAnyH_take (i := 3) (oi := ⟨some 16, _, _, _, _, _⟩) (v := ?vt1x3) rfl (by kernel_rfl) (by kernel_rfl) (by kernel_rfl) (fun _ _ _ h => h) (Or.inl ⟨by rfl, ?hyt1x3⟩) (by exact hS) ?ret1x3
    case hyt1x3 => (intro ww hSw; (try dsimp only at hSw); go_simp; first | done | with_reducible rfl)
    try simp only [Act.put, List.setIfInBounds_toArray, List.set_cons_zero, List.set_cons_succ]
    refine wpAnyH_take (i := 6) (oi := ⟨some 19, _, _, _, _, _⟩) (v := ?vt1x6) rfl (by kernel_rfl) (by kernel_rfl) (by kernel_rfl) (fun _ _ _ h => h) (Or.inl ⟨by rfl, ?hyt1x6⟩) (by exact hS) ?ret1x6
    case hyt1x6 => (intro ww hSw; (try dsimp only at hSw); go_simp; first | done | with_reducible rfl)
    try simp only [Act.put, List.setIfInBounds_toArray, List.set_cons_zero, List.set_cons_succ]
    refine wpAnyH_take (i := 7) (oi := ⟨some 20, _, _, _, _, _⟩) (v := ?vt1x7) rfl (by kernel_rfl) (by kernel_rfl) (by kernel_rfl) (fun _ _ _ h => h) (Or.inl ⟨by rfl, ?hyt1x7⟩) (by exact hS) ?ret1x7
    case hyt1x7 => (intro ww hSw; (try dsimp only at hSw); go_simp; first | done | with_reducible rfl)
    try simp only [Act.put, List.setIfInBounds_toArray, List.set_cons_zero, List.set_cons_succ]
    refine wpAnyH_take (i := 10) (oi := ⟨some 23, _, _, _, _, _⟩) (v := ?vt1x10) rfl (by kernel_rfl) (by kernel_rfl) (by kernel_rfl) (fun _ _ _ h => h) (Or.inl ⟨by rfl, ?hyt1x10⟩) (by exact hS) ?ret1x10
    case hyt1x10 => (intro ww hSw; (try dsimp only at hSw); go_simp; first | done | with_reducible rfl)
    try simp only [Act.put, List.setIfInBounds_toArray, List.set_cons_zero, List.set_cons_succ]
    refine wpAnyH_take (i := 11) (oi := ⟨some 24, _, _, _, _, _⟩) (v := ?vt1x11) rfl (by kernel_rfl) (by kernel_rfl) (by kernel_rfl) (fun _ _ _ h => h) (Or.inl ⟨by rfl, ?hyt1x11⟩) (by exact hS) ?ret1x11
    case hyt1x11 => (intro ww hSw; (try dsimp only at hSw); go_simp; first | done | with_reducible rfl)
    try simp only [Act.put, List.setIfInBounds_toArray, List.set_cons_zero, List.set_cons_succ]
    refine wpAnyH_take (i := 14) (oi := ⟨some 27, _, _, _, _, _⟩) (v := ?vt1x14) rfl (by kernel_rfl) (by kernel_rfl) (by kernel_rfl) (fun _ _ _ h => h) (Or.inl ⟨by rfl, ?hyt1x14⟩) (by exact hS) ?ret1x14
    case hyt1x14 => (intro ww hSw; (try dsimp only at hSw); go_simp; first | done | with_reducible rfl)
    try simp only [Act.put, List.setIfInBounds_toArray, List.set_cons_zero, List.set_cons_succ]
    refine wpAnyH_take (i := 15) (oi := ⟨some 28, _, _, _, _, _⟩) (v := ?vt1x15) rfl (by kernel_rfl) (by kernel_rfl) (by kernel_rfl) (fun _ _ _ h => h) (Or.inl ⟨by rfl, ?hyt1x15⟩) (by exact hS) ?ret1x15
    case hyt1x15 => (intro ww hSw; (try dsimp only at hSw); go_simp; first | done | with_reducible rfl)
    try simp only [Act.put, List.setIfInBounds_toArray, List.set_cons_zero, List.set_cons_succ]
    refine wpAnyH_take (i := 18) (oi := ⟨some 31, _, _, _, _, _⟩) (v := ?vt1x18) rfl (by kernel_rfl) (by kernel_rfl) (by kernel_rfl) (fun _ _ _ h => h) (Or.inl ⟨by rfl, ?hyt1x18⟩) (by exact hS) ?ret1x18
    case hyt1x18 => (intro ww hSw; (try dsimp only at hSw); go_simp; first | done | with_reducible rfl)
    try simp only [Act.put, List.setIfInBounds_toArray, List.set_cons_zero, List.set_cons_succ]
    refine wpAnyH_take (i := 19) (oi := ⟨some 32, _, _, _, _, _⟩) (v := ?vt1x19) rfl (by kernel_rfl) (by kernel_rfl) (by kernel_rfl) (fun _ _ _ h => h) (Or.inl ⟨by rfl, ?hyt1x19⟩) (by exact hS) ?ret1x19
    case hyt1x19 => (intro ww hSw; (try dsimp only at hSw); go_simp; first | done | with_reducible rfl)
    try simp only [Act.put, List.setIfInBounds_toArray, List.set_cons_zero, List.set_cons_succ]
    refine wpAnyH_take (i := 20) (oi := ⟨some 33, _, _, _, _, _⟩) (v := ?vt1x20) rfl (by kernel_rfl) (by kernel_rfl) (by kernel_rfl) (fun _ _ _ h => h) (Or.inl ⟨by rfl, ?hyt1x20⟩) (by exact hS) ?ret1x20
    case hyt1x20 => (intro ww hSw; (try dsimp only at hSw); go_simp; first | done | with_reducible rfl)
    try simp only [Act.put, List.setIfInBounds_toArray, List.set_cons_zero, List.set_cons_succ]
    refine wpAnyH_ready (rs := [2]) (by kernel_rfl) (by simp) ?_
    refine AllReadyH.cons (o := ⟨some 15, _, _, _, _, _⟩) rfl (fun K2 hK2 => ?_) AllReadyH.nil
    go_simp
    refine (H1.out _).mono ?_
    rintro e v0 ⟨rfl, hb7⟩
    dsimp only
    have Hmd := Lib.hid (bblock hb7 Hm.out); clear Hm; have Hm := Hmd; clear Hmd; have HBd := Lib.hid (below_call HB.out hb7); clear HB hb7; have HB := HBd; clear HBd
    refine hK2.out _ _ (⟨(cell_of_block (k := 0) Hm.out rfl).1, (cell_of_block (k := 2) Hm.out rfl).1, (cell_of_block (k := 3) Hm.out rfl).1, (cell_of_block (k := 4) Hm.out rfl).1, (cell_of_block (k := 5) Hm.out rfl).1⟩) (fun h2 => ?_)
    try simp only [Act.put, List.setIfInBounds_toArray, List.set_cons_zero, List.set_cons_succ]
    refine wpAnyH_ready (rs := [4]) (by kernel_rfl) (by simp) ?_
    refine AllReadyH.cons (o := ⟨some 17, _, _, _, _, _⟩) rfl (fun K3 hK3 => ?_) AllReadyH.nil
    go_simp
    refine (H2.out _).mono ?_
    rintro e v1 ⟨rfl, hb7⟩
    dsimp only
    have Hmd := Lib.hid (bblock hb7 Hm.out); clear Hm; have Hm := Hmd; clear Hmd; have HBd := Lib.hid (below_call HB.out hb7); clear HB hb7; have HB := HBd; clear HBd
    refine hK3.out _ _ (⟨(cell_of_block (k := 0) Hm.out rfl).1, (cell_of_block (k := 2) Hm.out rfl).1, (cell_of_block (k := 3) Hm.out rfl).1, (cell_of_block (k := 4) Hm.out rfl).1, (cell_of_block (k := 5) Hm.out rfl).1⟩) (fun h3 => ?_)
    try simp only [Act.put, List.setIfInBounds_toArray, List.set_cons_zero, List.set_cons_succ]
    refine wpAnyH_take (i := 5) (oi := ⟨some 18, _, _, _, _, _⟩) (v := ?vt4x5) rfl (by kernel_rfl) (by kernel_rfl) (by kernel_rfl) (fun _ _ _ h => h) (Or.inl ⟨by rfl, ?hyt4x5⟩) (by exact (by exact ⟨(cell_of_block (k := 0) Hm.out rfl).1, (cell_of_block (k := 2) Hm.out rfl).1, (cell_of_block (k := 3) Hm.out rfl).1, (cell_of_block (k := 4) Hm.out rfl).1, (cell_of_block (k := 5) Hm.out rfl).1⟩)) ?ret4x5
    case hyt4x5 => (intro ww hSw; (try dsimp only at hSw); go_simp; first | done | with_reducible rfl)
    try simp only [Act.put, List.setIfInBounds_toArray, List.set_cons_zero, List.set_cons_succ]
    refine wpAnyH_ready (rs := [8]) (by kernel_rfl) (by simp) ?_
    refine AllReadyH.cons (o := ⟨some 21, _, _, _, _, _⟩) rfl (fun K5 hK5 => ?_) AllReadyH.nil
    go_simp
    refine (H3.out _).mono ?_
    rintro e v2 ⟨rfl, hb7⟩
    dsimp only
    have Hmd := Lib.hid (bblock hb7 Hm.out); clear Hm; have Hm := Hmd; clear Hmd; have HBd := Lib.hid (below_call HB.out hb7); clear HB hb7; have HB := HBd; clear HBd
    refine hK5.out _ _ (⟨(cell_of_block (k := 0) Hm.out rfl).1, (cell_of_block (k := 2) Hm.out rfl).1, (cell_of_block (k := 3) Hm.out rfl).1, (cell_of_block (k := 4) Hm.out rfl).1, (cell_of_block (k := 5) Hm.out rfl).1⟩) (fun h5 => ?_)
    try simp only [Act.put, List.setIfInBounds_toArray, List.set_cons_zero, List.set_cons_succ]
    refine wpAnyH_take (i := 9) (oi := ⟨some 22, _, _, _, _, _⟩) (v := ?vt6x9) rfl (by kernel_rfl) (by kernel_rfl) (by kernel_rfl) (fun _ _ _ h => h) (Or.inl ⟨by rfl, ?hyt6x9⟩) (by exact (by exact ⟨(cell_of_block (k := 0) Hm.out rfl).1, (cell_of_block (k := 2) Hm.out rfl).1, (cell_of_block (k := 3) Hm.out rfl).1, (cell_of_block (k := 4) Hm.out rfl).1, (cell_of_block (k := 5) Hm.out rfl).1⟩)) ?ret6x9
    case hyt6x9 => (intro ww hSw; (try dsimp only at hSw); go_simp; first | done | with_reducible rfl)
    try simp only [Act.put, List.setIfInBounds_toArray, List.set_cons_zero, List.set_cons_succ]
    refine wpAnyH_ready (rs := [12]) (by kernel_rfl) (by simp) ?_
    refine AllReadyH.cons (o := ⟨some 25, _, _, _, _, _⟩) rfl (fun K7 hK7 => ?_) AllReadyH.nil
    go_simp
    refine (H4.out _).mono ?_
    rintro e v3 ⟨rfl, hb7⟩
    dsimp only
    have Hmd := Lib.hid (bblock hb7 Hm.out); clear Hm; have Hm := Hmd; clear Hmd; have HBd := Lib.hid (below_call HB.out hb7); clear HB hb7; have HB := HBd; clear HBd
    refine hK7.out _ _ (⟨(cell_of_block (k := 0) Hm.out rfl).1, (cell_of_block (k := 2) Hm.out rfl).1, (cell_of_block (k := 3) Hm.out rfl).1, (cell_of_block (k := 4) Hm.out rfl).1, (cell_of_block (k := 5) Hm.out rfl).1⟩) (fun h7 => ?_)
    try simp only [Act.put, List.setIfInBounds_toArray, List.set_cons_zero, List.set_cons_succ]
    refine wpAnyH_take (i := 13) (oi := ⟨some 26, _, _, _, _, _⟩) (v := ?vt8x13) rfl (by kernel_rfl) (by kernel_rfl) (by kernel_rfl) (fun _ _ _ h => h) (Or.inl ⟨by rfl, ?hyt8x13⟩) (by exact (by exact ⟨(cell_of_block (k := 0) Hm.out rfl).1, (cell_of_block (k := 2) Hm.out rfl).1, (cell_of_block (k := 3) Hm.out rfl).1, (cell_of_block (k := 4) Hm.out rfl).1, (cell_of_block (k := 5) Hm.out rfl).1⟩)) ?ret8x13
    case hyt8x13 => (intro ww hSw; (try dsimp only at hSw); go_simp; first | done | with_reducible rfl)
    try simp only [Act.put, List.setIfInBounds_toArray, List.set_cons_zero, List.set_cons_succ]
    refine wpAnyH_ready (rs := [16]) (by kernel_rfl) (by simp) ?_
    refine AllReadyH.cons (o := ⟨some 29, _, _, _, _, _⟩) rfl (fun K9 hK9 => ?_) AllReadyH.nil
    go_simp
    refine (H5.out _).mono ?_
    rintro e v4 ⟨rfl, hb7⟩
    dsimp only
    have Hmd := Lib.hid (bblock hb7 Hm.out); clear Hm; have Hm := Hmd; clear Hmd; have HBd := Lib.hid (below_call HB.out hb7); clear HB hb7; have HB := HBd; clear HBd
    refine hK9.out _ _ (⟨(cell_of_block (k := 0) Hm.out rfl).1, (cell_of_block (k := 2) Hm.out rfl).1, (cell_of_block (k := 3) Hm.out rfl).1, (cell_of_block (k := 4) Hm.out rfl).1, (cell_of_block (k := 5) Hm.out rfl).1⟩) (fun h9 => ?_)
    try simp only [Act.put, List.setIfInBounds_toArray, List.set_cons_zero, List.set_cons_succ]
    refine wpAnyH_take (i := 17) (oi := ⟨some 30, _, _, _, _, _⟩) (v := ?vt10x17) rfl (by kernel_rfl) (by kernel_rfl) (by kernel_rfl) (fun _ _ _ h => h) (Or.inl ⟨by rfl, ?hyt10x17⟩) (by exact (by exact ⟨(cell_of_block (k := 0) Hm.out rfl).1, (cell_of_block (k := 2) Hm.out rfl).1, (cell_of_block (k := 3) Hm.out rfl).1, (cell_of_block (k := 4) Hm.out rfl).1, (cell_of_block (k := 5) Hm.out rfl).1⟩)) ?ret10x17
    case hyt10x17 => (intro ww hSw; (try dsimp only at hSw); go_simp; first | done | with_reducible rfl)
    try simp only [Act.put, List.setIfInBounds_toArray, List.set_cons_zero, List.set_cons_succ]
    refine wpAnyH_ready (rs := [21]) (by kernel_rfl) (by simp) ?_
    refine AllReadyH.cons (o := ⟨some 34, _, _, _, _, _⟩) rfl (fun K11 hK11 => ?_) AllReadyH.nil
    go_simp
    refine (H6.out _).mono ?_
    rintro e v5 ⟨rfl, hb7⟩
    dsimp only
    have Hmd := Lib.hid (bblock hb7 Hm.out); clear Hm; have Hm := Hmd; clear Hmd; have HBd := Lib.hid (below_call HB.out hb7); clear HB hb7; have HB := HBd; clear HBd
    refine hK11.out _ _ (⟨(cell_of_block (k := 0) Hm.out rfl).1, (cell_of_block (k := 2) Hm.out rfl).1, (cell_of_block (k := 3) Hm.out rfl).1, (cell_of_block (k := 4) Hm.out rfl).1, (cell_of_block (k := 5) Hm.out rfl).1⟩) (fun h11 => ?_)
    try simp only [Act.put, List.setIfInBounds_toArray, List.set_cons_zero, List.set_cons_succ]
    refine wpAnyH_take (i := 22) (oi := ⟨some 35, _, _, _, _, _⟩) (v := ?vt12x22) rfl (by kernel_rfl) (by kernel_rfl) (by kernel_rfl) (fun _ _ _ h => h) (Or.inl ⟨by rfl, ?hyt12x22⟩) (by exact (by exact ⟨(cell_of_block (k := 0) Hm.out rfl).1, (cell_of_block (k := 2) Hm.out rfl).1, (cell_of_block (k := 3) Hm.out rfl).1, (cell_of_block (k := 4) Hm.out rfl).1, (cell_of_block (k := 5) Hm.out rfl).1⟩)) ?ret12x22
    case hyt12x22 => (intro ww hSw; (try dsimp only at hSw); go_simp; first | done | with_reducible rfl)
    try simp only [Act.put, List.setIfInBounds_toArray, List.set_cons_zero, List.set_cons_succ]
    refine wpAnyH_take (i := 23) (oi := ⟨some 5, _, _, _, _, _⟩) (v := ?vt12x23) rfl (by kernel_rfl) (by kernel_rfl) (by kernel_rfl) (fun _ _ _ h => h) (Or.inl ⟨by rfl, ?hyt12x23⟩) (by exact (by exact ⟨(cell_of_block (k := 0) Hm.out rfl).1, (cell_of_block (k := 2) Hm.out rfl).1, (cell_of_block (k := 3) Hm.out rfl).1, (cell_of_block (k := 4) Hm.out rfl).1, (cell_of_block (k := 5) Hm.out rfl).1⟩)) ?ret12x23
    case hyt12x23 => (intro ww hSw; (try dsimp only at hSw); go_simp; first | done | with_reducible rfl)
    try simp only [Act.put, List.setIfInBounds_toArray, List.set_cons_zero, List.set_cons_succ]
    refine wpAnyH_done (by kernel_rfl) ?_ _
    simp only [bapp]
    go_wp2_with fail
    go_meet
    exact ⟨by simp only [List.append_assoc], Hm.out, HB.out⟩
  case rest =>
  clear Hm HB
  obtain ⟨rfl, hm, hB⟩ := hcut
  have Hm := Lib.hid hm; have HB := Lib.hid hB; clear hm hB
  skip
  go_wp2_with fail
  have lPre : (B1 ++ (B2 ++ (B3 ++ (B4 ++ (B5 ++ B6))))).length ≤ 100 := by simp only [List.length_append]; omega
  have HEn : Hid (EN = (B1 ++ (B2 ++ (B3 ++ (B4 ++ (B5 ++ B6))))) ++ recs.flatMap encRec) := Lib.hid (by rw [HE.out]; simp only [List.append_assoc])
  generalize (B1 ++ (B2 ++ (B3 ++ (B4 ++ (B5 ++ B6))))) = PR at *
  clear H1 H2 H3 H4 H5 H6 z5 z6 z7 z8 l1 l2 l3 l4 l5 l6 HV HE
  have hm5 := (cell_of_block (k := 5) Hm.out rfl).1
  generalize wc = wv at *
  go_loopw [5, 6] (fun v u wr => ∃ (k : Nat) (E : List UInt8), k ≤ recs.length ∧ u = .int .i64 (k : Int) ∧ v = .string ⟨E.toArray⟩ ∧ E = PR ++ (recs.take k).flatMap encRec ∧ E.length ≤ 100 + 127 * k ∧ Below wv.heap.size wv wr) (fun v u wr => recs.length - (intOf u).toNat)
  case atStart => exact ⟨0, PR, by omega, rfl, rfl, by simp, by omega, Below.refl _ _⟩
  case round =>
    clear hm5
    obtain ⟨k, E, hk, rfl, rfl, hE, hEl, hr⟩ := hrel
    have HE := Lib.hid hE; clear hE
    have Hm2 := Lib.hid (bblock hr Hm.out); have hm5 := (cell_of_block (k := 5) Hm2.out rfl).1
    have HBr := Lib.hid (below_call HB.out hr)
    by_cases hlt : k < recs.length
    · obtain ⟨g, rfl, hlo, d0, d1, d2, d3, d4⟩ := (HRow.out.below HBr.out).at hlt
      have hkl : decide ((k : Int) < (recs.length : Int)) = true := by simp; omega
      have hk1 : (k : Int) < (recs.length : Int) := by omega
      have hk0 : (0 : Int) ≤ (k : Int) := by omega
      have hrb : recB recs[k] = true := List.all_eq_true.1 hall recs[k] (List.getElem_mem hlt)
      have HX : Hid (E ++ encRec recs[k] = PR ++ (recs.take (k + 1)).flatMap encRec) := Lib.hid (by rw [HE.out, List.take_add_one, List.getElem?_eq_getElem hlt, List.flatMap_append]; simp)
      generalize recs[k] = r at *
      obtain ⟨rn, rk, rt, ra, rdd⟩ := r
      dsimp only at d0 d1 d2 d3 d4
      unfold recB at hrb
      simp only [Bool.and_eq_true, Bool.or_eq_true, decide_eq_true_eq] at hrb
      obtain ⟨⟨⟨hn, t0⟩, t1⟩, hk12⟩ := hrb
      have K1 := Lib.hid fun W => rname_any rn W hn
      have K2 := Lib.hid fun W => dput_ok rk 1 W (by omega) (by omega) (by omega) (by show rk < 256; omega)
      have K3 := Lib.hid fun W => dput_ok rt 2 W (by omega) (by omega) (by omega) (by show rt < 65536; omega)
      rw [show ((1 : Nat) : Int) = 1 from rfl] at K2
      rw [show ((2 : Nat) : Int) = 2 from rfl] at K3
      have HER : Hid (encRec ⟨rn, rk, rt, ra, rdd⟩ = encName rn ++ (be 1 rk ++ (be 2 rt ++ (if rk = 2 then encName rdd else be 4 ra)))) := Lib.hid rfl
      have g1 : (encName rn).length ≤ 62 := by rw [encName_len]; have := name_len hn; omega
      have g2 : (be 1 rk).length ≤ 1 := by rw [be_length]; omega
      have g3 : (be 2 rt).length ≤ 2 := by rw [be_length]; omega
      generalize encRec ⟨rn, rk, rt, ra, rdd⟩ = ER at *
      generalize encName rn = N1 at *
      generalize be 1 rk = C1 at *
      generalize be 2 rt = C2 at *
      have z1 : ¬ 9223372036854775807 < E.length + N1.length := by omega
      have z2 : ¬ 9223372036854775807 < E.length + N1.length + C1.length := by omega
      have z3 : ¬ 9223372036854775807 < E.length + N1.length + C1.length + C2.length := by omega
      go_upto_region 11 with fail
      have HO := Lib.hid (alloc_new wr (.cells #[.string ⟨rn.toArray⟩, .int .i64 rk, .int .i64 rt, .int .i64 ra, .string ⟨rdd.toArray⟩] 50)); have hra := below_alloc (o := .cells #[.string ⟨rn.toArray⟩, .int .i64 rk, .int .i64 rt, .int .i64 ra, .string ⟨rdd.toArray⟩] 50) hr
      clear d0 d1 d2 d3 d4 hm5 HE hr
      generalize hwa : wr.alloc (.cells #[.string ⟨rn.toArray⟩, .int .i64 rk, .int .i64 rt, .int .i64 ra, .string ⟨rdd.toArray⟩] 50) = wa at *
      clear hwa
      obtain ⟨b, hbe⟩ : ∃ b, wr.heap.size = b := ⟨_, rfl⟩
      rw [hbe] at HO ⊢
      go_cut [5] (fun s5 wx => s5 = .string ⟨(E ++ (N1 ++ (C1 ++ C2))).toArray⟩ ∧ wx.heap[b]? = some (.cells #[.string ⟨rn.toArray⟩, .int .i64 rk, .int .i64 rt, .int .i64 ra, .string ⟨rdd.toArray⟩] 50) ∧ Below wv.heap.size wv wx)
      case first =>
        refine wp_region_held_drew (S := fun w' => w'.cell? ⟨b, 0, none⟩ = some (.string ⟨rn.toArray⟩) ∧ w'.cell? ⟨b, 1, none⟩ = some (.int .i64 rk) ∧ w'.cell? ⟨b, 2, none⟩ = some (.int .i64 rt)) (by kernel_rfl) (⟨(cell_of_block (k := 0) HO.out rfl).1, (cell_of_block (k := 1) HO.out rfl).1, (cell_of_block (k := 2) HO.out rfl).1⟩) ?_
        intro hS
        have HOd : Hid (wa.drew.heap[b]? = _) := Lib.hid HO.out; clear HO; have HO := HOd; clear HOd; have hrd := hra.drew; clear hra; have hra := hrd; clear hrd
        generalize wa.drew = wad at *
        refine wpAnyH_take (i := 0) (oi := ⟨some 48, _, _, _, _, _⟩) (v := ?vt13x0) rfl (by kernel_rfl) (by kernel_rfl) (by kernel_rfl) (fun _ _ _ h => h) (Or.inl ⟨by rfl, ?hyt13x0⟩) (by exact hS) ?ret13x0
        case hyt13x0 => (intro ww hSw; (try dsimp only at hSw); go_simp; first | done | with_reducible rfl)
        try simp only [Act.put, List.setIfInBounds_toArray, List.set_cons_zero, List.set_cons_succ]
        refine wpAnyH_take (i := 1) (oi := ⟨some 49, _, _, _, _, _⟩) (v := ?vt13x1) rfl (by kernel_rfl) (by kernel_rfl) (by kernel_rfl) (fun _ _ _ h => h) (Or.inl ⟨by rfl, ?hyt13x1⟩) (by exact hS) ?ret13x1
        case hyt13x1 => (intro ww hSw; (try dsimp only at hSw); go_simp; first | done | with_reducible rfl)
        try simp only [Act.put, List.setIfInBounds_toArray, List.set_cons_zero, List.set_cons_succ]
        refine wpAnyH_take (i := 2) (oi := ⟨some 50, _, _, _, _, _⟩) (v := ?vt13x2) rfl (by kernel_rfl) (by kernel_rfl) (by kernel_rfl) (fun _ _ _ h => h) (Or.inl ⟨by rfl, ?hyt13x2⟩) (by exact hS) ?ret13x2
        case hyt13x2 => (intro ww hSw; (try dsimp only at hSw); go_simp; first | done | with_reducible rfl)
        try simp only [Act.put, List.setIfInBounds_toArray, List.set_cons_zero, List.set_cons_succ]
        refine wpAnyH_take (i := 5) (oi := ⟨some 53, _, _, _, _, _⟩) (v := ?vt13x5) rfl (by kernel_rfl) (by kernel_rfl) (by kernel_rfl) (fun _ _ _ h => h) (Or.inl ⟨by rfl, ?hyt13x5⟩) (by exact hS) ?ret13x5
        case hyt13x5 => (intro ww hSw; (try dsimp only at hSw); go_simp; first | done | with_reducible rfl)
        try simp only [Act.put, List.setIfInBounds_toArray, List.set_cons_zero, List.set_cons_succ]
        refine wpAnyH_take (i := 6) (oi := ⟨some 54, _, _, _, _, _⟩) (v := ?vt13x6) rfl (by kernel_rfl) (by kernel_rfl) (by kernel_rfl) (fun _ _ _ h => h) (Or.inl ⟨by rfl, ?hyt13x6⟩) (by exact hS) ?ret13x6
        case hyt13x6 => (intro ww hSw; (try dsimp only at hSw); go_simp; first | done | with_reducible rfl)
        try simp only [Act.put, List.setIfInBounds_toArray, List.set_cons_zero, List.set_cons_succ]
        refine wpAnyH_take (i := 9) (oi := ⟨some 57, _, _, _, _, _⟩) (v := ?vt13x9) rfl (by kernel_rfl) (by kernel_rfl) (by kernel_rfl) (fun _ _ _ h => h) (Or.inl ⟨by rfl, ?hyt13x9⟩) (by exact hS) ?ret13x9
        case hyt13x9 => (intro ww hSw; (try dsimp only at hSw); go_simp; first | done | with_reducible rfl)
        try simp only [Act.put, List.setIfInBounds_toArray, List.set_cons_zero, List.set_cons_succ]
        refine wpAnyH_take (i := 10) (oi := ⟨some 58, _, _, _, _, _⟩) (v := ?vt13x10) rfl (by kernel_rfl) (by kernel_rfl) (by kernel_rfl) (fun _ _ _ h => h) (Or.inl ⟨by rfl, ?hyt13x10⟩) (by exact hS) ?ret13x10
        case hyt13x10 => (intro ww hSw; (try dsimp only at hSw); go_simp; first | done | with_reducible rfl)
        try simp only [Act.put, List.setIfInBounds_toArray, List.set_cons_zero, List.set_cons_succ]
        refine wpAnyH_ready (rs := [3]) (by kernel_rfl) (by simp) ?_
        refine AllReadyH.cons (o := ⟨some 51, _, _, _, _, _⟩) rfl (fun K14 hK14 => ?_) AllReadyH.nil
        go_simp
        refine (K1.out _).mono ?_
        rintro e x0 ⟨rfl, hb7⟩
        dsimp only
        have HOd := Lib.hid (bblock hb7 HO.out); clear HO; have HO := HOd; clear HOd; have hrd := below_call hra hb7; clear hra hb7; have hra := hrd; clear hrd
        refine hK14.out _ _ (⟨(cell_of_block (k := 0) HO.out rfl).1, (cell_of_block (k := 1) HO.out rfl).1, (cell_of_block (k := 2) HO.out rfl).1⟩) (fun h14 => ?_)
        try simp only [Act.put, List.setIfInBounds_toArray, List.set_cons_zero, List.set_cons_succ]
        refine wpAnyH_take (i := 4) (oi := ⟨some 52, _, _, _, _, _⟩) (v := ?vt15x4) rfl (by kernel_rfl) (by kernel_rfl) (by kernel_rfl) (fun _ _ _ h => h) (Or.inl ⟨by rfl, ?hyt15x4⟩) (by exact (by exact ⟨(cell_of_block (k := 0) HO.out rfl).1, (cell_of_block (k := 1) HO.out rfl).1, (cell_of_block (k := 2) HO.out rfl).1⟩)) ?ret15x4
        case hyt15x4 => (intro ww hSw; (try dsimp only at hSw); go_simp; first | done | with_reducible rfl)
        try simp only [Act.put, List.setIfInBounds_toArray, List.set_cons_zero, List.set_cons_succ]
        refine wpAnyH_ready (rs := [7]) (by kernel_rfl) (by simp) ?_
        refine AllReadyH.cons (o := ⟨some 55, _, _, _, _, _⟩) rfl (fun K16 hK16 => ?_) AllReadyH.nil
        go_simp
        refine (K2.out _).mono ?_
        rintro e x1 ⟨rfl, hb7⟩
        dsimp only
        have HOd := Lib.hid (bblock hb7 HO.out); clear HO; have HO := HOd; clear HOd; have hrd := below_call hra hb7; clear hra hb7; have hra := hrd; clear hrd
        refine hK16.out _ _ (⟨(cell_of_block (k := 0) HO.out rfl).1, (cell_of_block (k := 1) HO.out rfl).1, (cell_of_block (k := 2) HO.out rfl).1⟩) (fun h16 => ?_)
        try simp only [Act.put, List.setIfInBounds_toArray, List.set_cons_zero, List.set_cons_succ]
        refine wpAnyH_take (i := 8) (oi := ⟨some 56, _, _, _, _, _⟩) (v := ?vt17x8) rfl (by kernel_rfl) (by kernel_rfl) (by kernel_rfl) (fun _ _ _ h => h) (Or.inl ⟨by rfl, ?hyt17x8⟩) (by exact (by exact ⟨(cell_of_block (k := 0) HO.out rfl).1, (cell_of_block (k := 1) HO.out rfl).1, (cell_of_block (k := 2) HO.out rfl).1⟩)) ?ret17x8
        case hyt17x8 => (intro ww hSw; (try dsimp only at hSw); go_simp; first | done | with_reducible rfl)
        try simp only [Act.put, List.setIfInBounds_toArray, List.set_cons_zero, List.set_cons_succ]
        refine wpAnyH_ready (rs := [11]) (by kernel_rfl) (by simp) ?_
        refine AllReadyH.cons (o := ⟨some 59, _, _, _, _, _⟩) rfl (fun K18 hK18 => ?_) AllReadyH.nil
        go_simp
        refine (K3.out _).mono ?_
        rintro e x2 ⟨rfl, hb7⟩
        dsimp only
        have HOd := Lib.hid (bblock hb7 HO.out); clear HO; have HO := HOd; clear HOd; have hrd := below_call hra hb7; clear hra hb7; have hra := hrd; clear hrd
        refine hK18.out _ _ (⟨(cell_of_block (k := 0) HO.out rfl).1, (cell_of_block (k := 1) HO.out rfl).1, (cell_of_block (k := 2) HO.out rfl).1⟩) (fun h18 => ?_)
        try simp only [Act.put, List.setIfInBounds_toArray, List.set_cons_zero, List.set_cons_succ]
        refine wpAnyH_take (i := 12) (oi := ⟨some 60, _, _, _, _, _⟩) (v := ?vt19x12) rfl (by kernel_rfl) (by kernel_rfl) (by kernel_rfl) (fun _ _ _ h => h) (Or.inl ⟨by rfl, ?hyt19x12⟩) (by exact (by exact ⟨(cell_of_block (k := 0) HO.out rfl).1, (cell_of_block (k := 1) HO.out rfl).1, (cell_of_block (k := 2) HO.out rfl).1⟩)) ?ret19x12
        case hyt19x12 => (intro ww hSw; (try dsimp only at hSw); go_simp; first | done | with_reducible rfl)
        try simp only [Act.put, List.setIfInBounds_toArray, List.set_cons_zero, List.set_cons_succ]
        refine wpAnyH_take (i := 13) (oi := ⟨some 5, _, _, _, _, _⟩) (v := ?vt19x13) rfl (by kernel_rfl) (by kernel_rfl) (by kernel_rfl) (fun _ _ _ h => h) (Or.inl ⟨by rfl, ?hyt19x13⟩) (by exact (by exact ⟨(cell_of_block (k := 0) HO.out rfl).1, (cell_of_block (k := 1) HO.out rfl).1, (cell_of_block (k := 2) HO.out rfl).1⟩)) ?ret19x13
        case hyt19x13 => (intro ww hSw; (try dsimp only at hSw); go_simp; first | done | with_reducible rfl)
        try simp only [Act.put, List.setIfInBounds_toArray, List.set_cons_zero, List.set_cons_succ]
        refine wpAnyH_done (by kernel_rfl) ?_ _
        simp only [bapp]
        go_wp2_with fail
        go_meet
        exact ⟨by simp only [List.append_assoc], HO.out, hra⟩
      case rest =>
      obtain ⟨rfl, hO, hra⟩ := hcut
      have HO := Lib.hid hO; clear hO
      obtain ⟨⟨o0, o1, o2, o3, o4⟩, -⟩ := cells5 HO.out
      clear K1 K2 K3 z1 z2 z3 HO
      have hel : (E ++ (N1 ++ (C1 ++ C2))).length ≤ E.length + 65 := by simp only [List.length_append]; omega
      have HX2 : Hid (∀ T, ER = N1 ++ (C1 ++ (C2 ++ T)) → E ++ (N1 ++ (C1 ++ C2)) ++ T = PR ++ (recs.take (k + 1)).flatMap encRec) := Lib.hid fun T h => by rw [← HX.out, h]; simp only [List.append_assoc]
      clear HX
      generalize E ++ (N1 ++ (C1 ++ C2)) = EE at *
      rcases hk12 with ⟨⟨⟨e1, a0⟩, a1⟩, -⟩ | ⟨⟨e1, hdn⟩, -⟩
      · have hkb : (rk == 1) = true := by rw [e1]; rfl
        have K4 := Lib.hid fun W => dput_ok ra 4 W (by omega) (by omega) (by omega) (by show ra < 4294967296; omega)
        rw [show ((4 : Nat) : Int) = 4 from rfl] at K4
        rw [if_neg (by omega)] at HER
        have g4 : (be 4 ra).length ≤ 62 := by rw [be_length]; omega
        generalize be 4 ra = T at *
        clear e1
        have z4 : ¬ 9223372036854775807 < EE.length + T.length := by omega
        have HXX : Hid (EE ++ T = PR ++ (recs.take (k + 1)).flatMap encRec) := Lib.hid (HX2.out T HER.out)
        clear HX2 HER
        go_wp2_with fail
        refine (K4.out _).mono ?_
        rintro e x4 ⟨rfl, hb7⟩
        go_wp2_with fail
        rw [bapp]
        exact ⟨⟨k + 1, _, by omega, by go_num, rfl, HXX.out, (by simp only [List.length_append]; omega), below_call hra hb7⟩, by simp [Go.RowKit.intOf]; omega⟩
      · have hkb : (rk == 1) = false := by rw [e1]; rfl
        have K4 := Lib.hid fun W => rname_any rdd W hdn
        rw [if_pos e1] at HER
        have g4 : (encName rdd).length ≤ 62 := by rw [encName_len]; have := name_len hdn; omega
        generalize encName rdd = T at *
        clear e1
        have z4 : ¬ 9223372036854775807 < EE.length + T.length := by omega
        have HXX : Hid (EE ++ T = PR ++ (recs.take (k + 1)).flatMap encRec) := Lib.hid (HX2.out T HER.out)
        clear HX2 HER
        go_wp2_with fail
        refine (K4.out _).mono ?_
        rintro e x4 ⟨rfl, hb7⟩
        go_wp2_with fail
        rw [bapp]
        exact ⟨⟨k + 1, _, by omega, by go_num, rfl, HXX.out, (by simp only [List.length_append]; omega), below_call hra hb7⟩, by simp [Go.RowKit.intOf]; omega⟩
    · have hkl : decide ((k : Int) < (recs.length : Int)) = false := by simp; omega
      obtain rfl : k = recs.length := by omega
      have HEf : Hid (E = EN) := Lib.hid (by rw [HE.out, HEn.out, List.take_length])
      go_wp2_with fail
      go_ret2
      rw [HEf.out]
      exact ⟨rfl, HBr.out⟩
end Go.Proofs.Ythdggmigjddneaa.Dn
