/-
  The contract of the reader's message.
-/
import Derived.Test.YtmgjcjacoegocaaGreatDoorDnRm
import Derived.Test.YtmgjcjacoegocaaGreatDoorHeld
namespace Go.Proofs.YtmgjcjacoegocaaGreatDoor.Dn
set_option maxRecDepth 100000
open Go.RowKit Go.Proofs.YtmgjcjacoegocaaGreatDoor.Wire Go.Proofs.YtmgjcjacoegocaaGreatDoor.Rw

theorem infoMsg : (Tryz.prog.info? 39).map (·.size) = some 6 := by kernel_rfl
theorem infoRecF : (Tryz.prog.info? 92).map (fun i => (i.zero, i.size, i.bytes)) = some (some (.agg #[.string ⟨#[]⟩, .int .i64 0, .int .i64 0, .int .i64 0, .string ⟨#[]⟩]), 5, 56) := by kernel_rfl
/-- the reader at R has read a message, or has panicked; the records' row is new -/
def MgPost (R : Nat) (s : ByteArray) (at_ : Nat) (w : World) (e : Ending) (w' : World) : Prop :=
  w.grownBy w' (some R) ∧ ((rdMsg (restOf s at_) = none ∧ e = panE) ∨ ∃ d l A c, rdMsg (restOf s at_) = some (d, l) ∧ e = .returned (.agg (mcells d A c).toArray) ∧ d.fits ∧ RRow w' w.heap.size A c d.recs)
structure MgI (w : World) (R : Nat) (s : ByteArray) (id an code : Int) (nm : List UInt8) (kd : Int) (n : Nat) (L6 : List UInt8) (k : Nat) (acc : List Rec) (A : Option Addr) (c a : Nat) (W : World) : Prop where
  rd : W.heap[R]? = some (rdO s a)
  le : a ≤ s.size
  z : W.heap[w.heap.size]? = some (.cells #[.int .i64 0, .bool false, .int .i64 0, .string ⟨#[]⟩, .int .i64 0, .slice none 0 0] 39 (0, 0))
  d : W.heap[w.heap.size + 1]? = some (.cells #[.int .i64 id, .bool (an == 1), .int .i64 code, .string ⟨nm.toArray⟩, .int .i64 kd, .slice A k c] 39 (0, 0))
  row : RRow W w.heap.size A c acc
  len : acc.length = k
  fits : ∀ r ∈ acc, r.fits
  eq : rdRecs n [] L6 = rdRecs (n - k) acc (restOf s a)
  gr : w.grownBy W (some R)
theorem mz_ne (vs : Array Value) (c : Array Value) : (Obj.cells vs 39 (0, 0)) ≠ .cells c 92 (0, 0) := by
  intro e
  injection e with _ e2
  exact absurd e2 (by decide)
theorem RRow.off {W : World} {lo : Nat} {A : Option Addr} {c : Nat} {l : List Rec} (h : RRow W lo A c l) {q : Nat} {vs : Array Value} (hq : W.heap[q]? = some (.cells vs 39 (0, 0))) : ¬ BK A q := by
  rintro ⟨x, rfl, rfl⟩
  rcases h.2 with ⟨e, -⟩ | ⟨g, cap, cur, e, -, hg, -⟩
  · cases e
  · injection e with e
    cases e
    rw [hg] at hq
    injection hq with hq
    exact mz_ne _ _ hq.symm
set_option maxHeartbeats 16000000 in
theorem message_r (R : Nat) (s : ByteArray) (at_ : Nat) (w : World) (hR : w.heap[R]? = some (rdO s at_)) (hat : at_ ≤ s.size) (hs : s.size ≤ 1000000) :
    Calls Tryz.prog 66 #[.pointer (some ⟨R, 0, none⟩)] w (MgPost R s at_ w) := by
  have hRw := blk_lt hR
  have HR0 := Lib.hid (block_alloc (block_alloc hR (.cells #[.int .i64 0, .bool false, .int .i64 0, .string ⟨#[]⟩, .int .i64 0, .slice none 0 0] 39)) (.cells #[.int .i64 0, .bool false, .int .i64 0, .string ⟨#[]⟩, .int .i64 0, .slice none 0 0] 39))
  have HZ0 := Lib.hid (block_alloc (alloc_new w (.cells #[.int .i64 0, .bool false, .int .i64 0, .string ⟨#[]⟩, .int .i64 0, .slice none 0 0] 39)) (.cells #[.int .i64 0, .bool false, .int .i64 0, .string ⟨#[]⟩, .int .i64 0, .slice none 0 0] 39))
  have HD0 := Lib.hid (alloc_new' (w.alloc (.cells #[.int .i64 0, .bool false, .int .i64 0, .string ⟨#[]⟩, .int .i64 0, .slice none 0 0] 39)) (.cells #[.int .i64 0, .bool false, .int .i64 0, .string ⟨#[]⟩, .int .i64 0, .slice none 0 0] 39) (w.heap.size + 1) (by simp))
  have HG0 : Hid (w.grownBy ((w.alloc (.cells #[.int .i64 0, .bool false, .int .i64 0, .string ⟨#[]⟩, .int .i64 0, .slice none 0 0] 39)).alloc (.cells #[.int .i64 0, .bool false, .int .i64 0, .string ⟨#[]⟩, .int .i64 0, .slice none 0 0] 39)) (some R)) := Lib.hid (only_alloc (only_alloc (only_refl w R)))
  have hz0 : w.heap.size + 2 ≤ ((w.alloc (.cells #[.int .i64 0, .bool false, .int .i64 0, .string ⟨#[]⟩, .int .i64 0, .slice none 0 0] 39)).alloc (.cells #[.int .i64 0, .bool false, .int .i64 0, .string ⟨#[]⟩, .int .i64 0, .slice none 0 0] 39)).heap.size := by simp
  have HE : Hid (rdMsg (restOf s at_) = (rdNum 2 (restOf s at_)).bind fun (id, l1) => (rdNum 1 l1).bind fun (an, l2) => (rdNum 1 l2).bind fun (code, l3) => (rdNum 1 l3).bind fun (kd, l4) => (rdName 62 [] l4).bind fun (nm, l5) => (rdNum 1 l5).bind fun (n, l6) => if 8 < n then none else (rdRecs n.toNat [] l6).bind fun (rs, l7) => some (⟨id, decide (an = 1), code, nm, kd, rs⟩, l7)) := Lib.hid rfl
  have HPost : Hid (∀ e w', MgPost R s at_ w e w' ↔ (w.grownBy w' (some R) ∧ ((rdMsg (restOf s at_) = none ∧ e = panE) ∨ ∃ d l A c, rdMsg (restOf s at_) = some (d, l) ∧ e = .returned (.agg (mcells d A c).toArray) ∧ d.fits ∧ RRow w' w.heap.size A c d.recs))) := Lib.hid fun _ _ => Iff.rfl
  generalize MgPost R s at_ w = POST at *
  generalize rdMsg (restOf s at_) = res at *
  clear hR
  have hpi := pan_iface
  go_enter Tryz.func66, Tryz.ntmps66
  skip
  have HN := Lib.hid (number_r R s at_ 2 _ HR0.out hat hs (by omega) (by omega))
  rw [show ((2 : Nat) : Int) = 2 from rfl] at HN
  go_wp2_with fail
  refine HN.out.mono ?_
  rintro e w1 ⟨hg1, ⟨hn1, rfl⟩ | ⟨id, a1, hn1, hle1, hlt1, rfl, hok1, hr1⟩⟩
  · have HX : Hid (res = none) := Lib.hid (by rw [HE.out, hn1]; rfl)
    have HGx := Lib.hid (HG0.out.trans hg1)
    unfold panE
    go_wp2_with fail
    refine bodyPost_pan rfl ?_
    exact (HPost.out _ _).2 ⟨HGx.out, .inl ⟨HX.out, rfl⟩⟩
  rw [hn1, Option.bind_some] at HE
  dsimp only at HE
  have HZ1 := Lib.hid ((hg1.block w.heap.size (by omega) (by intro e; injection e with e; omega)).trans HZ0.out)
  have HDx := (hg1.block (w.heap.size + 1) (by omega) (by intro e; injection e with e; omega)).trans HD0.out
  have hz1 : w.heap.size + 2 ≤ w1.heap.size := Nat.le_trans hz0 hg1.size
  have HGx := HG0.out.trans hg1
  clear HN HZ0 HD0 HG0 HR0 hg1 hn1 hz0
  have HDy := HDx; have HDx := Lib.hid HDy; clear HDy
  have q0 := (cell_of_block (k := 0) HDx.out rfl).1; have y0 := (cell_of_block (k := 0) HDx.out rfl).2
  have HD1 := Lib.hid (cells_eq (b := #[.int .i64 id, .bool false, .int .i64 0, .string ⟨#[]⟩, .int .i64 0, .slice none 0 0]) (block_setCell (k := 0) (v := .int .i64 id) HDx.out) rfl)
  have HZy := Lib.hid (block_set_other (a := ⟨w.heap.size + 1, 0, none⟩) (u := .int .i64 id) HZ1.out (by first | (simp; done) | (simp; omega)))
  clear HZ1; have HZ1 := HZy; clear HZy
  have HR1 := Lib.hid (block_set_other (a := ⟨w.heap.size + 1, 0, none⟩) (u := .int .i64 id) hr1 (by first | (simp; done) | (simp; omega)))
  have HG1 := Lib.hid (only_set (p := ⟨w.heap.size + 1, 0, none⟩) HGx (.inr (by simp)) (.int .i64 id))
  have hzy : w.heap.size + 2 ≤ (w1.setCell ⟨w.heap.size + 1, 0, none⟩ (.int .i64 id)).heap.size := by simpa [World.setCell] using hz1
  clear HGx hr1 hz1; have hz1 := hzy; clear hzy
  skip
  obtain ⟨W1, hW1⟩ : ∃ W1, W1 = w1.setCell ⟨w.heap.size + 1, 0, none⟩ (.int .i64 id) := ⟨_, rfl⟩
  rw [← hW1] at HD1 HZ1 HR1 HG1 hz1
  go_upto_region 3 with fail
  rw [← hW1]
  clear hW1 HDx q0 y0
  have HN := Lib.hid (number_r R s a1 1 _ HR1.out hlt1 hs (by omega) (by omega))
  rw [show ((1 : Nat) : Int) = 1 from rfl] at HN
  go_wp2_with fail
  refine HN.out.mono ?_
  rintro e w2 ⟨hg2, ⟨hn2, rfl⟩ | ⟨an, a2, hn2, hle2, hlt2, rfl, hok2, hr2⟩⟩
  · have HX : Hid (res = none) := Lib.hid (by rw [HE.out, hn2]; rfl)
    have HGx := Lib.hid (HG1.out.trans hg2)
    unfold panE
    go_wp2_with fail
    refine bodyPost_pan rfl ?_
    exact (HPost.out _ _).2 ⟨HGx.out, .inl ⟨HX.out, rfl⟩⟩
  rw [hn2, Option.bind_some] at HE
  dsimp only at HE
  have HZ2 := Lib.hid ((hg2.block w.heap.size (by omega) (by intro e; injection e with e; omega)).trans HZ1.out)
  have HDx := (hg2.block (w.heap.size + 1) (by omega) (by intro e; injection e with e; omega)).trans HD1.out
  have hz2 : w.heap.size + 2 ≤ w2.heap.size := Nat.le_trans hz1 hg2.size
  have HGx := HG1.out.trans hg2
  clear HN HZ1 HD1 HG1 HR1 hg2 hn2 hz1
  have HDy := HDx; have HDx := Lib.hid HDy; clear HDy
  have q1 := (cell_of_block (k := 1) HDx.out rfl).1; have y1 := (cell_of_block (k := 1) HDx.out rfl).2
  have HD2 := Lib.hid (cells_eq (b := #[.int .i64 id, .bool (an == 1), .int .i64 0, .string ⟨#[]⟩, .int .i64 0, .slice none 0 0]) (block_setCell (k := 1) (v := .bool (an == 1)) HDx.out) rfl)
  have HZy := Lib.hid (block_set_other (a := ⟨w.heap.size + 1, 1, none⟩) (u := .bool (an == 1)) HZ2.out (by first | (simp; done) | (simp; omega)))
  clear HZ2; have HZ2 := HZy; clear HZy
  have HR2 := Lib.hid (block_set_other (a := ⟨w.heap.size + 1, 1, none⟩) (u := .bool (an == 1)) hr2 (by first | (simp; done) | (simp; omega)))
  have HG2 := Lib.hid (only_set (p := ⟨w.heap.size + 1, 1, none⟩) HGx (.inr (by simp)) (.bool (an == 1)))
  have hzy : w.heap.size + 2 ≤ (w2.setCell ⟨w.heap.size + 1, 1, none⟩ (.bool (an == 1))).heap.size := by simpa [World.setCell] using hz2
  clear HGx hr2 hz2; have hz2 := hzy; clear hzy
  skip
  obtain ⟨W2, hW2⟩ : ∃ W2, W2 = w2.setCell ⟨w.heap.size + 1, 1, none⟩ (.bool (an == 1)) := ⟨_, rfl⟩
  rw [← hW2] at HD2 HZ2 HR2 HG2 hz2
  go_upto_region 4 with fail
  rw [← hW2]
  clear hW2 HDx q1 y1
  have HN := Lib.hid (number_r R s a2 1 _ HR2.out hlt2 hs (by omega) (by omega))
  rw [show ((1 : Nat) : Int) = 1 from rfl] at HN
  go_wp2_with fail
  refine HN.out.mono ?_
  rintro e w3 ⟨hg3, ⟨hn3, rfl⟩ | ⟨code, a3, hn3, hle3, hlt3, rfl, hok3, hr3⟩⟩
  · have HX : Hid (res = none) := Lib.hid (by rw [HE.out, hn3]; rfl)
    have HGx := Lib.hid (HG2.out.trans hg3)
    unfold panE
    go_wp2_with fail
    refine bodyPost_pan rfl ?_
    exact (HPost.out _ _).2 ⟨HGx.out, .inl ⟨HX.out, rfl⟩⟩
  rw [hn3, Option.bind_some] at HE
  dsimp only at HE
  have HZ3 := Lib.hid ((hg3.block w.heap.size (by omega) (by intro e; injection e with e; omega)).trans HZ2.out)
  have HDx := (hg3.block (w.heap.size + 1) (by omega) (by intro e; injection e with e; omega)).trans HD2.out
  have hz3 : w.heap.size + 2 ≤ w3.heap.size := Nat.le_trans hz2 hg3.size
  have HGx := HG2.out.trans hg3
  clear HN HZ2 HD2 HG2 HR2 hg3 hn3 hz2
  have HDy := HDx; have HDx := Lib.hid HDy; clear HDy
  have q2 := (cell_of_block (k := 2) HDx.out rfl).1; have y2 := (cell_of_block (k := 2) HDx.out rfl).2
  have HD3 := Lib.hid (cells_eq (b := #[.int .i64 id, .bool (an == 1), .int .i64 code, .string ⟨#[]⟩, .int .i64 0, .slice none 0 0]) (block_setCell (k := 2) (v := .int .i64 code) HDx.out) rfl)
  have HZy := Lib.hid (block_set_other (a := ⟨w.heap.size + 1, 2, none⟩) (u := .int .i64 code) HZ3.out (by first | (simp; done) | (simp; omega)))
  clear HZ3; have HZ3 := HZy; clear HZy
  have HR3 := Lib.hid (block_set_other (a := ⟨w.heap.size + 1, 2, none⟩) (u := .int .i64 code) hr3 (by first | (simp; done) | (simp; omega)))
  have HG3 := Lib.hid (only_set (p := ⟨w.heap.size + 1, 2, none⟩) HGx (.inr (by simp)) (.int .i64 code))
  have hzy : w.heap.size + 2 ≤ (w3.setCell ⟨w.heap.size + 1, 2, none⟩ (.int .i64 code)).heap.size := by simpa [World.setCell] using hz3
  clear HGx hr3 hz3; have hz3 := hzy; clear hzy
  skip
  obtain ⟨W3, hW3⟩ : ∃ W3, W3 = w3.setCell ⟨w.heap.size + 1, 2, none⟩ (.int .i64 code) := ⟨_, rfl⟩
  rw [← hW3] at HD3 HZ3 HR3 HG3 hz3
  go_upto_region 5 with fail
  rw [← hW3]
  clear hW3 HDx q2 y2
  have HN := Lib.hid (number_r R s a3 1 _ HR3.out hlt3 hs (by omega) (by omega))
  rw [show ((1 : Nat) : Int) = 1 from rfl] at HN
  go_wp2_with fail
  refine HN.out.mono ?_
  rintro e w4 ⟨hg4, ⟨hn4, rfl⟩ | ⟨kd, a4, hn4, hle4, hlt4, rfl, hok4, hr4⟩⟩
  · have HX : Hid (res = none) := Lib.hid (by rw [HE.out, hn4]; rfl)
    have HGx := Lib.hid (HG3.out.trans hg4)
    unfold panE
    go_wp2_with fail
    refine bodyPost_pan rfl ?_
    exact (HPost.out _ _).2 ⟨HGx.out, .inl ⟨HX.out, rfl⟩⟩
  rw [hn4, Option.bind_some] at HE
  dsimp only at HE
  have HZ4 := Lib.hid ((hg4.block w.heap.size (by omega) (by intro e; injection e with e; omega)).trans HZ3.out)
  have HDx := (hg4.block (w.heap.size + 1) (by omega) (by intro e; injection e with e; omega)).trans HD3.out
  have hz4 : w.heap.size + 2 ≤ w4.heap.size := Nat.le_trans hz3 hg4.size
  have HGx := HG3.out.trans hg4
  clear HN HZ3 HD3 HG3 HR3 hg4 hn4 hz3
  have HDy := HDx; have HDx := Lib.hid HDy; clear HDy
  have q4 := (cell_of_block (k := 4) HDx.out rfl).1; have y4 := (cell_of_block (k := 4) HDx.out rfl).2
  have HD4 := Lib.hid (cells_eq (b := #[.int .i64 id, .bool (an == 1), .int .i64 code, .string ⟨#[]⟩, .int .i64 kd, .slice none 0 0]) (block_setCell (k := 4) (v := .int .i64 kd) HDx.out) rfl)
  have HZy := Lib.hid (block_set_other (a := ⟨w.heap.size + 1, 4, none⟩) (u := .int .i64 kd) HZ4.out (by first | (simp; done) | (simp; omega)))
  clear HZ4; have HZ4 := HZy; clear HZy
  have HR4 := Lib.hid (block_set_other (a := ⟨w.heap.size + 1, 4, none⟩) (u := .int .i64 kd) hr4 (by first | (simp; done) | (simp; omega)))
  have HG4 := Lib.hid (only_set (p := ⟨w.heap.size + 1, 4, none⟩) HGx (.inr (by simp)) (.int .i64 kd))
  have hzy : w.heap.size + 2 ≤ (w4.setCell ⟨w.heap.size + 1, 4, none⟩ (.int .i64 kd)).heap.size := by simpa [World.setCell] using hz4
  clear HGx hr4 hz4; have hz4 := hzy; clear hzy
  skip
  obtain ⟨W4, hW4⟩ : ∃ W4, W4 = w4.setCell ⟨w.heap.size + 1, 4, none⟩ (.int .i64 kd) := ⟨_, rfl⟩
  rw [← hW4] at HD4 HZ4 HR4 HG4 hz4
  go_upto_region 6 with fail
  rw [← hW4]
  clear hW4 HDx q4 y4
  have HN := Lib.hid (name_r R s a4 _ HR4.out hlt4 hs)
  go_wp2_with fail
  refine HN.out.mono ?_
  rintro e w5 ⟨hg5, ⟨hn5, rfl⟩ | ⟨nm, a5, hn5, hle5, hlt5, rfl, hok5, hr5⟩⟩
  · have HX : Hid (res = none) := Lib.hid (by rw [HE.out, hn5]; rfl)
    have HGx := Lib.hid (HG4.out.trans hg5)
    unfold panE
    go_wp2_with fail
    refine bodyPost_pan rfl ?_
    exact (HPost.out _ _).2 ⟨HGx.out, .inl ⟨HX.out, rfl⟩⟩
  rw [hn5, Option.bind_some] at HE
  dsimp only at HE
  have HZ5 := Lib.hid ((hg5.block w.heap.size (by omega) (by intro e; injection e with e; omega)).trans HZ4.out)
  have HDx := (hg5.block (w.heap.size + 1) (by omega) (by intro e; injection e with e; omega)).trans HD4.out
  have hz5 : w.heap.size + 2 ≤ w5.heap.size := Nat.le_trans hz4 hg5.size
  have HGx := HG4.out.trans hg5
  clear HN HZ4 HD4 HG4 HR4 hg5 hn5 hz4
  have HDy := HDx; have HDx := Lib.hid HDy; clear HDy
  have q3 := (cell_of_block (k := 3) HDx.out rfl).1; have y3 := (cell_of_block (k := 3) HDx.out rfl).2
  have HD5 := Lib.hid (cells_eq (b := #[.int .i64 id, .bool (an == 1), .int .i64 code, .string ⟨nm.toArray⟩, .int .i64 kd, .slice none 0 0]) (block_setCell (k := 3) (v := .string ⟨nm.toArray⟩) HDx.out) rfl)
  have HZy := Lib.hid (block_set_other (a := ⟨w.heap.size + 1, 3, none⟩) (u := .string ⟨nm.toArray⟩) HZ5.out (by first | (simp; done) | (simp; omega)))
  clear HZ5; have HZ5 := HZy; clear HZy
  have HR5 := Lib.hid (block_set_other (a := ⟨w.heap.size + 1, 3, none⟩) (u := .string ⟨nm.toArray⟩) hr5 (by first | (simp; done) | (simp; omega)))
  have HG5 := Lib.hid (only_set (p := ⟨w.heap.size + 1, 3, none⟩) HGx (.inr (by simp)) (.string ⟨nm.toArray⟩))
  have hzy : w.heap.size + 2 ≤ (w5.setCell ⟨w.heap.size + 1, 3, none⟩ (.string ⟨nm.toArray⟩)).heap.size := by simpa [World.setCell] using hz5
  clear HGx hr5 hz5; have hz5 := hzy; clear hzy
  skip
  obtain ⟨W5, hW5⟩ : ∃ W5, W5 = w5.setCell ⟨w.heap.size + 1, 3, none⟩ (.string ⟨nm.toArray⟩) := ⟨_, rfl⟩
  rw [← hW5] at HD5 HZ5 HR5 HG5 hz5
  go_upto_region 7 with fail
  rw [← hW5]
  clear hW5 HDx q3 y3
  have HN := Lib.hid (number_r R s a5 1 _ HR5.out hlt5 hs (by omega) (by omega))
  rw [show ((1 : Nat) : Int) = 1 from rfl] at HN
  go_wp2_with fail
  refine HN.out.mono ?_
  rintro e w6 ⟨hg6, ⟨hn6, rfl⟩ | ⟨cnt, a6, hn6, hle6, hlt6, rfl, hok6, hr6⟩⟩
  · have HX : Hid (res = none) := Lib.hid (by rw [HE.out, hn6]; rfl)
    have HGx := Lib.hid (HG5.out.trans hg6)
    unfold panE
    go_wp2_with fail
    refine bodyPost_pan rfl ?_
    exact (HPost.out _ _).2 ⟨HGx.out, .inl ⟨HX.out, rfl⟩⟩
  rw [hn6, Option.bind_some] at HE
  dsimp only at HE
  have HZ6 := Lib.hid ((hg6.block w.heap.size (by omega) (by intro e; injection e with e; omega)).trans HZ5.out)
  have HDx := (hg6.block (w.heap.size + 1) (by omega) (by intro e; injection e with e; omega)).trans HD5.out
  have hz6 : w.heap.size + 2 ≤ w6.heap.size := Nat.le_trans hz5 hg6.size
  have HGx := HG5.out.trans hg6
  clear HN HZ5 HD5 HG5 HR5 hg6 hn6 hz5
  have HD6 := Lib.hid HDx; have HG6 := Lib.hid HGx; have HR6 := Lib.hid hr6
  clear HDx HGx hr6
  by_cases h8 : 8 < cnt
  · rw [if_pos h8] at HE
    have HX : Hid (res = none) := Lib.hid HE.out
    have h8' : decide ((8 : Int) < cnt) = true := decide_eq_true h8
    go_wp2_with fail
    refine bodyPost_pan rfl ?_
    exact (HPost.out _ _).2 ⟨HG6.out, .inl ⟨HX.out, rfl⟩⟩
  rw [if_neg h8] at HE
  have h8' : decide ((8 : Int) < cnt) = false := decide_eq_false h8
  obtain ⟨n, rfl⟩ := Int.eq_ofNat_of_zero_le hok6.1
  rw [Int.toNat_natCast] at HE
  have hn8 : n ≤ 8 := by omega
  clear h8 hok6
  go_wp2_with fail
  go_loopw [28] (fun u wr => ∃ k acc A c a, k ≤ n ∧ u = .int .i64 ((k : Nat) : Int) ∧ MgI w R s id an code nm kd n (restOf s a6) k acc A c a wr) (fun u _ => n - (Go.RowKit.intOf u).toNat)
  case atStart => exact ⟨0, [], none, 0, a6, by omega, rfl, HR6.out, hlt6, HZ6.out, HD6.out, SRow.nil _ _ _ _ _, rfl, fun r h => by simp at h, rfl, HG6.out⟩
  case round =>
    clear HR6 HZ6 HD6 HG6
    obtain ⟨k, acc, A, c, a, hk, rfl, hI⟩ := hrel
    have HI := Lib.hid hI; clear hI
    have hla := HI.out.le
    have lD := blk_lt HI.out.d
    by_cases hlt : k < n
    · have hkl : decide ((k : Int) < (n : Int)) = true := decide_eq_true (by omega)
      go_upto_region 12 with fail
      refine wp_region_held_drew (S := fun _ => True) (by kernel_rfl) trivial ?_
      intro hS
      have hln := HI.out.len; have HFs := Lib.hid HI.out.fits
      have HDc : Hid (wr.drew.heap[w.heap.size + 1]? = _) := Lib.hid HI.out.d; have HZc : Hid (wr.drew.heap[w.heap.size]? = _) := Lib.hid HI.out.z; have HRr : Hid (wr.drew.heap[R]? = _) := Lib.hid HI.out.rd; have HRw : Hid (RRow wr.drew w.heap.size A c acc) := Lib.hid HI.out.row; have HGc : Hid (w.grownBy wr.drew (some R)) := Lib.hid (only_drew HI.out.gr)
      generalize wr.drew = wd at *
      refine wpAnyH_take (i := 0) (oi := ⟨some 30, _, _, _, _, _⟩) (v := ?vt1x0) rfl (by kernel_rfl) (by kernel_rfl) (by kernel_rfl) (fun _ _ _ h => h) (Or.inl ⟨by rfl, ?hyt1x0⟩) (by exact trivial) ?ret1x0
      case hyt1x0 => (intro ww hSw; (try dsimp only at hSw); go_simp; first | done | with_reducible rfl)
      try simp only [Act.put, List.setIfInBounds_toArray, List.set_cons_zero, List.set_cons_succ]
      refine wpAnyH_take (i := 2) (oi := ⟨some 32, _, _, _, _, _⟩) (v := ?vt1x2) rfl (by kernel_rfl) (by kernel_rfl) (by kernel_rfl) (fun _ _ _ h => h) (Or.inl ⟨by rfl, ?hyt1x2⟩) (by exact trivial) ?ret1x2
      case hyt1x2 => (intro ww hSw; (try dsimp only at hSw); go_simp; first | done | with_reducible rfl)
      try simp only [Act.put, List.setIfInBounds_toArray, List.set_cons_zero, List.set_cons_succ]
      refine wpAnyH_ready (rs := [1, 3]) (by kernel_rfl) (by simp) ?_
      refine AllReadyH.cons (o := ⟨some 31, _, _, _, _, _⟩) rfl (fun K2 hK2 => ?sa2) ?mo2
      case sa2 =>
        have dl := (cell_of_block (k := 5) HDc.out rfl).1
        go_simp
        refine hK2.out _ _ trivial (fun _ => ?_)
        try simp only [Act.put, List.setIfInBounds_toArray, List.set_cons_zero, List.set_cons_succ]
        clear dl
        refine wpAnyH_ready (rs := [3]) (by kernel_rfl) (by simp) ?_
        refine AllReadyH.cons (o := ⟨some 33, _, _, _, _, _⟩) rfl (fun K3 hK3 => ?_) AllReadyH.nil
        have hlaW := blk_lt HDc.out
        have HRc := Lib.hid (record_r R s a wd HRr.out hla hs)
        go_simp
        refine HRc.out.mono ?_
        rintro e w7 ⟨hg7, ⟨hn7, rfl⟩ | ⟨r, a', hn7, hle7, hlt7, rfl, hok7, hr7⟩⟩
        · have HX : Hid (res = none) := Lib.hid (by rw [HE.out, HI.out.eq, show n - k = (n - k - 1) + 1 from by omega, rdRecs, hn7]; rfl)
          have HGx : Hid (w.grownBy w7 (some R)) := Lib.hid (HGc.out.trans hg7)
          unfold panE
          go_wp2_with fail
          refine bodyPost_pan rfl ?_
          exact (HPost.out _ _).2 ⟨HGx.out, .inl ⟨HX.out, rfl⟩⟩
        have HX7 : Hid (rdRecs (n - k) acc (restOf s a) = rdRecs (n - (k + 1)) (acc ++ [r]) (restOf s a')) := Lib.hid (by rw [show n - k = (n - (k + 1)) + 1 from by omega, rdRecs, hn7]; rfl)
        have HD7 := Lib.hid ((hg7.block (w.heap.size + 1) hlaW (by intro e; injection e with e; omega)).trans HDc.out); clear HDc; have HDc := HD7; clear HD7
        have HZ7 := Lib.hid ((hg7.block w.heap.size (by omega) (by intro e; injection e with e; omega)).trans HZc.out); clear HZc; have HZc := HZ7; clear HZ7
        have HRw7 : Hid (RRow w7 w.heap.size A c acc) := Lib.hid (SRow.kept HRw.out (fun x hx => hg7.block x.block (HRw.out.bk hx).2 (by intro e; injection e with e; have := (HRw.out.bk hx).1; omega))); clear HRw; have HRw := HRw7; clear HRw7
        have HG7 : Hid (w.grownBy w7 (some R)) := Lib.hid (HGc.out.trans hg7); clear HGc; have HGc := HG7; clear HG7
        clear HRr; have HRr := Lib.hid hr7; have HOK7 := Lib.hid hok7
        clear hn7 hr7 hok7 hg7 HRc
        obtain ⟨rn, rk, rt, ra, rdd⟩ := r
        dsimp only [rcells]
        refine hK3.out _ _ trivial (fun _ => ?_)
        try simp only [Act.put, List.setIfInBounds_toArray, List.set_cons_zero, List.set_cons_succ]
        refine wpAnyH_ready (rs := [4]) (by kernel_rfl) (by simp) ?_
        refine AllReadyH.cons (o := ⟨some 34, _, _, _, _, _⟩) rfl (fun K4 hK4 => ?_) AllReadyH.nil
        go_simp
        refine hK4.out _ _ trivial (fun _ => ?_)
        try simp only [Act.put, List.setIfInBounds_toArray, List.set_cons_zero, List.set_cons_succ]
        have HN8 := Lib.hid (alloc_new w7 (.cells #[.string ⟨rn.toArray⟩, .int .i64 rk, .int .i64 rt, .int .i64 ra, .string ⟨rdd.toArray⟩] 92))
        have HD8 := Lib.hid (block_alloc HDc.out (.cells #[.string ⟨rn.toArray⟩, .int .i64 rk, .int .i64 rt, .int .i64 ra, .string ⟨rdd.toArray⟩] 92)); have HZ8 := Lib.hid (block_alloc HZc.out (.cells #[.string ⟨rn.toArray⟩, .int .i64 rk, .int .i64 rt, .int .i64 ra, .string ⟨rdd.toArray⟩] 92)); have HR8 := Lib.hid (block_alloc HRr.out (.cells #[.string ⟨rn.toArray⟩, .int .i64 rk, .int .i64 rt, .int .i64 ra, .string ⟨rdd.toArray⟩] 92)); clear HDc HZc HRr; have HDc := HD8; have HZc := HZ8; have HRr := HR8; clear HD8 HZ8 HR8
        have HRw8 := Lib.hid (HRw.out.below ((Below.refl w7.heap.size w7).alloc (Nat.le_refl _) (.cells #[.string ⟨rn.toArray⟩, .int .i64 rk, .int .i64 rt, .int .i64 ra, .string ⟨rdd.toArray⟩] 92))); clear HRw; have HRw := HRw8; clear HRw8
        have HG8 := Lib.hid (only_alloc (o := .cells #[.string ⟨rn.toArray⟩, .int .i64 rk, .int .i64 rt, .int .i64 ra, .string ⟨rdd.toArray⟩] 92) HGc.out); clear HGc; have HGc := HG8; clear HG8
        have hs8 : w7.heap.size + 1 = (w7.alloc (.cells #[.string ⟨rn.toArray⟩, .int .i64 rk, .int .i64 rt, .int .i64 ra, .string ⟨rdd.toArray⟩] 92)).heap.size := by simp
        generalize w7.alloc (.cells #[.string ⟨rn.toArray⟩, .int .i64 rk, .int .i64 rt, .int .i64 ra, .string ⟨rdd.toArray⟩] 92) = w8 at *
        obtain ⟨i0, hi, hz0, hz1, hz2⟩ := info_parts infoRecF
        have lDc := blk_lt HDc.out
        refine wpAnyH_ready (rs := [5]) (by kernel_rfl) (by simp) ?_
        refine AllReadyH.cons (o := ⟨some 35, _, _, _, _, _⟩) rfl (fun K5 hK5 => ?_) AllReadyH.nil
        have HC8 : Hid (([⟨rn, rk, rt, ra, rdd⟩] : List Rec).flatMap rcells = [.string ⟨rn.toArray⟩, .int .i64 rk, .int .i64 rt, .int .i64 ra, .string ⟨rdd.toArray⟩]) := Lib.hid rfl
        refine step_app rfl (.tmp 31) (.tmp 34) 37 rfl HRw.out rcells_len i0 _ 56 Tryz.underlying37 hi hz0 hz1 hz2 rfl (by decide) k hln _ _ _ [⟨rn, rk, rt, ra, rdd⟩] rfl rfl rfl (fun _ => ⟨_, rfl, by rw [HC8.out]; exact World.news_of_block HN8.out⟩) (by rw [HC8.out]; intro u hu; simp at hu; rcases hu with rfl | rfl | rfl | rfl | rfl <;> rfl) (by unfold maxLen; omega) (by omega) (by omega) ?_
        intro A2 c2 w9 ho hg ha
        have hoD := HRw.out.off HDc.out; have hoZ := HRw.out.off HZc.out
        have HD9 := Lib.hid ((hg.block _ (blk_lt HDc.out) (fun e => hoD (ob_bk e.symm))).trans HDc.out)
        have HZ9 := Lib.hid ((hg.block _ (blk_lt HZc.out) (fun e => hoZ (ob_bk e.symm))).trans HZc.out)
        have HR9 := Lib.hid ((hg.block _ (blk_lt HRr.out) (fun e => by have := (HRw.out.bk' (ob_bk e.symm)).1; omega)).trans HRr.out)
        have HG9 : Hid (w.grownBy w9 (some R)) := Lib.hid ⟨hg.os.trans HGc.out.os, hg.tape.trans HGc.out.tape, hg.output.trans HGc.out.output, Nat.le_trans HGc.out.size hg.size, fun i hi2 hne => (hg.block i (by have := HGc.out.size; omega) (fun e => by have := (HRw.out.bk' (ob_bk e.symm)).1; omega)).trans (HGc.out.block i hi2 hne)⟩
        have HRw9 : Hid (RRow w9 w.heap.size A2 c2 (acc ++ [⟨rn, rk, rt, ra, rdd⟩])) := Lib.hid ho
        clear ho hg ha hoD hoZ
        refine hK5.out _ _ trivial (fun _ => ?_)
        try simp only [Act.put, List.setIfInBounds_toArray, List.set_cons_zero, List.set_cons_succ]
        refine wpAnyH_take (i := 6) (oi := ⟨some 36, _, _, _, _, _⟩) (v := ?vt6x6) rfl (by kernel_rfl) (by kernel_rfl) (by kernel_rfl) (fun _ _ _ h => h) (Or.inl ⟨by rfl, ?hyt6x6⟩) (by exact trivial) ?ret6x6
        case hyt6x6 => (intro ww hSw; (try dsimp only at hSw); go_simp; first | done | with_reducible rfl)
        try simp only [Act.put, List.setIfInBounds_toArray, List.set_cons_zero, List.set_cons_succ]
        refine wpAnyH_ready (rs := [7]) (by kernel_rfl) (by simp) ?_
        refine AllReadyH.cons (o := ⟨none, _, _, _, _, _⟩) rfl (fun K7 hK7 => ?_) AllReadyH.nil
        have d9 := (cell_of_block (k := 5) HD9.out rfl).1; have z9 := (cell_of_block (k := 5) HD9.out rfl).2
        go_simp
        refine hK7.out _ _ trivial (fun _ => ?_)
        try simp only [Act.put, List.setIfInBounds_toArray, List.set_cons_zero, List.set_cons_succ]
        refine wpAnyH_done (by kernel_rfl) ?_ _
        clear d9 z9
        have hoD9 := HRw9.out.off HD9.out
        have HIn : Hid (MgI w R s id an code nm kd n (restOf s a6) (k + 1) (acc ++ [⟨rn, rk, rt, ra, rdd⟩]) A2 c2 a' (w9.setCell ⟨w.heap.size + 1, 5, none⟩ (.slice A2 (k + 1) c2))) := Lib.hid ⟨block_set_other HR9.out (by first | (simp; done) | (simp; omega)), hlt7, block_set_other HZ9.out (by first | (simp; done) | (simp; omega)), cells_eq (b := #[.int .i64 id, .bool (an == 1), .int .i64 code, .string ⟨nm.toArray⟩, .int .i64 kd, .slice A2 (k + 1) c2]) (block_setCell (k := 5) HD9.out) rfl, SRow.kept HRw9.out (fun x hx => by have hne : w.heap.size + 1 ≠ x.block := fun e => hoD9 ⟨x, hx, e.symm⟩; simp [World.setCell, Array.getElem?_modify, hne]), by rw [List.length_append, hln]; rfl, fun r hr => by rcases List.mem_append.1 hr with h | h; exact HFs.out r h; rw [List.mem_singleton.1 h]; exact HOK7.out, HI.out.eq.trans HX7.out, only_set HG9.out (.inr (by simp)) _⟩
        go_wp2_with fail
        exact ⟨⟨k + 1, _, A2, c2, a', by omega, by go_num, HIn.out⟩, by simp [Go.RowKit.intOf]; omega⟩
      case mo2 =>
        refine AllReadyH.cons (o := ⟨some 33, _, _, _, _, _⟩) rfl (fun K8 hK8 => ?_) AllReadyH.nil
        have hlaW := blk_lt HDc.out
        have HRc := Lib.hid (record_r R s a wd HRr.out hla hs)
        go_simp
        refine HRc.out.mono ?_
        rintro e w7 ⟨hg7, ⟨hn7, rfl⟩ | ⟨r, a', hn7, hle7, hlt7, rfl, hok7, hr7⟩⟩
        · have HX : Hid (res = none) := Lib.hid (by rw [HE.out, HI.out.eq, show n - k = (n - k - 1) + 1 from by omega, rdRecs, hn7]; rfl)
          have HGx : Hid (w.grownBy w7 (some R)) := Lib.hid (HGc.out.trans hg7)
          unfold panE
          go_wp2_with fail
          refine bodyPost_pan rfl ?_
          exact (HPost.out _ _).2 ⟨HGx.out, .inl ⟨HX.out, rfl⟩⟩
        have HX7 : Hid (rdRecs (n - k) acc (restOf s a) = rdRecs (n - (k + 1)) (acc ++ [r]) (restOf s a')) := Lib.hid (by rw [show n - k = (n - (k + 1)) + 1 from by omega, rdRecs, hn7]; rfl)
        have HD7 := Lib.hid ((hg7.block (w.heap.size + 1) hlaW (by intro e; injection e with e; omega)).trans HDc.out); clear HDc; have HDc := HD7; clear HD7
        have HZ7 := Lib.hid ((hg7.block w.heap.size (by omega) (by intro e; injection e with e; omega)).trans HZc.out); clear HZc; have HZc := HZ7; clear HZ7
        have HRw7 : Hid (RRow w7 w.heap.size A c acc) := Lib.hid (SRow.kept HRw.out (fun x hx => hg7.block x.block (HRw.out.bk hx).2 (by intro e; injection e with e; have := (HRw.out.bk hx).1; omega))); clear HRw; have HRw := HRw7; clear HRw7
        have HG7 : Hid (w.grownBy w7 (some R)) := Lib.hid (HGc.out.trans hg7); clear HGc; have HGc := HG7; clear HG7
        clear HRr; have HRr := Lib.hid hr7; have HOK7 := Lib.hid hok7
        clear hn7 hr7 hok7 hg7 HRc
        obtain ⟨rn, rk, rt, ra, rdd⟩ := r
        dsimp only [rcells]
        refine hK8.out _ _ trivial (fun _ => ?_)
        try simp only [Act.put, List.setIfInBounds_toArray, List.set_cons_zero, List.set_cons_succ]
        refine wpAnyH_ready (rs := [1, 4]) (by kernel_rfl) (by simp) ?_
        refine AllReadyH.cons (o := ⟨some 31, _, _, _, _, _⟩) rfl (fun K9 hK9 => ?sa9) ?mo9
        case sa9 =>
          have dl := (cell_of_block (k := 5) HDc.out rfl).1
          go_simp
          refine hK9.out _ _ trivial (fun _ => ?_)
          try simp only [Act.put, List.setIfInBounds_toArray, List.set_cons_zero, List.set_cons_succ]
          clear dl
          refine wpAnyH_ready (rs := [4]) (by kernel_rfl) (by simp) ?_
          refine AllReadyH.cons (o := ⟨some 34, _, _, _, _, _⟩) rfl (fun K10 hK10 => ?_) AllReadyH.nil
          go_simp
          refine hK10.out _ _ trivial (fun _ => ?_)
          try simp only [Act.put, List.setIfInBounds_toArray, List.set_cons_zero, List.set_cons_succ]
          have HN8 := Lib.hid (alloc_new w7 (.cells #[.string ⟨rn.toArray⟩, .int .i64 rk, .int .i64 rt, .int .i64 ra, .string ⟨rdd.toArray⟩] 92))
          have HD8 := Lib.hid (block_alloc HDc.out (.cells #[.string ⟨rn.toArray⟩, .int .i64 rk, .int .i64 rt, .int .i64 ra, .string ⟨rdd.toArray⟩] 92)); have HZ8 := Lib.hid (block_alloc HZc.out (.cells #[.string ⟨rn.toArray⟩, .int .i64 rk, .int .i64 rt, .int .i64 ra, .string ⟨rdd.toArray⟩] 92)); have HR8 := Lib.hid (block_alloc HRr.out (.cells #[.string ⟨rn.toArray⟩, .int .i64 rk, .int .i64 rt, .int .i64 ra, .string ⟨rdd.toArray⟩] 92)); clear HDc HZc HRr; have HDc := HD8; have HZc := HZ8; have HRr := HR8; clear HD8 HZ8 HR8
          have HRw8 := Lib.hid (HRw.out.below ((Below.refl w7.heap.size w7).alloc (Nat.le_refl _) (.cells #[.string ⟨rn.toArray⟩, .int .i64 rk, .int .i64 rt, .int .i64 ra, .string ⟨rdd.toArray⟩] 92))); clear HRw; have HRw := HRw8; clear HRw8
          have HG8 := Lib.hid (only_alloc (o := .cells #[.string ⟨rn.toArray⟩, .int .i64 rk, .int .i64 rt, .int .i64 ra, .string ⟨rdd.toArray⟩] 92) HGc.out); clear HGc; have HGc := HG8; clear HG8
          have hs8 : w7.heap.size + 1 = (w7.alloc (.cells #[.string ⟨rn.toArray⟩, .int .i64 rk, .int .i64 rt, .int .i64 ra, .string ⟨rdd.toArray⟩] 92)).heap.size := by simp
          generalize w7.alloc (.cells #[.string ⟨rn.toArray⟩, .int .i64 rk, .int .i64 rt, .int .i64 ra, .string ⟨rdd.toArray⟩] 92) = w8 at *
          obtain ⟨i0, hi, hz0, hz1, hz2⟩ := info_parts infoRecF
          have lDc := blk_lt HDc.out
          refine wpAnyH_ready (rs := [5]) (by kernel_rfl) (by simp) ?_
          refine AllReadyH.cons (o := ⟨some 35, _, _, _, _, _⟩) rfl (fun K11 hK11 => ?_) AllReadyH.nil
          have HC8 : Hid (([⟨rn, rk, rt, ra, rdd⟩] : List Rec).flatMap rcells = [.string ⟨rn.toArray⟩, .int .i64 rk, .int .i64 rt, .int .i64 ra, .string ⟨rdd.toArray⟩]) := Lib.hid rfl
          refine step_app rfl (.tmp 31) (.tmp 34) 37 rfl HRw.out rcells_len i0 _ 56 Tryz.underlying37 hi hz0 hz1 hz2 rfl (by decide) k hln _ _ _ [⟨rn, rk, rt, ra, rdd⟩] rfl rfl rfl (fun _ => ⟨_, rfl, by rw [HC8.out]; exact World.news_of_block HN8.out⟩) (by rw [HC8.out]; intro u hu; simp at hu; rcases hu with rfl | rfl | rfl | rfl | rfl <;> rfl) (by unfold maxLen; omega) (by omega) (by omega) ?_
          intro A2 c2 w9 ho hg ha
          have hoD := HRw.out.off HDc.out; have hoZ := HRw.out.off HZc.out
          have HD9 := Lib.hid ((hg.block _ (blk_lt HDc.out) (fun e => hoD (ob_bk e.symm))).trans HDc.out)
          have HZ9 := Lib.hid ((hg.block _ (blk_lt HZc.out) (fun e => hoZ (ob_bk e.symm))).trans HZc.out)
          have HR9 := Lib.hid ((hg.block _ (blk_lt HRr.out) (fun e => by have := (HRw.out.bk' (ob_bk e.symm)).1; omega)).trans HRr.out)
          have HG9 : Hid (w.grownBy w9 (some R)) := Lib.hid ⟨hg.os.trans HGc.out.os, hg.tape.trans HGc.out.tape, hg.output.trans HGc.out.output, Nat.le_trans HGc.out.size hg.size, fun i hi2 hne => (hg.block i (by have := HGc.out.size; omega) (fun e => by have := (HRw.out.bk' (ob_bk e.symm)).1; omega)).trans (HGc.out.block i hi2 hne)⟩
          have HRw9 : Hid (RRow w9 w.heap.size A2 c2 (acc ++ [⟨rn, rk, rt, ra, rdd⟩])) := Lib.hid ho
          clear ho hg ha hoD hoZ
          refine hK11.out _ _ trivial (fun _ => ?_)
          try simp only [Act.put, List.setIfInBounds_toArray, List.set_cons_zero, List.set_cons_succ]
          refine wpAnyH_take (i := 6) (oi := ⟨some 36, _, _, _, _, _⟩) (v := ?vt12x6) rfl (by kernel_rfl) (by kernel_rfl) (by kernel_rfl) (fun _ _ _ h => h) (Or.inl ⟨by rfl, ?hyt12x6⟩) (by exact trivial) ?ret12x6
          case hyt12x6 => (intro ww hSw; (try dsimp only at hSw); go_simp; first | done | with_reducible rfl)
          try simp only [Act.put, List.setIfInBounds_toArray, List.set_cons_zero, List.set_cons_succ]
          refine wpAnyH_ready (rs := [7]) (by kernel_rfl) (by simp) ?_
          refine AllReadyH.cons (o := ⟨none, _, _, _, _, _⟩) rfl (fun K13 hK13 => ?_) AllReadyH.nil
          have d9 := (cell_of_block (k := 5) HD9.out rfl).1; have z9 := (cell_of_block (k := 5) HD9.out rfl).2
          go_simp
          refine hK13.out _ _ trivial (fun _ => ?_)
          try simp only [Act.put, List.setIfInBounds_toArray, List.set_cons_zero, List.set_cons_succ]
          refine wpAnyH_done (by kernel_rfl) ?_ _
          clear d9 z9
          have hoD9 := HRw9.out.off HD9.out
          have HIn : Hid (MgI w R s id an code nm kd n (restOf s a6) (k + 1) (acc ++ [⟨rn, rk, rt, ra, rdd⟩]) A2 c2 a' (w9.setCell ⟨w.heap.size + 1, 5, none⟩ (.slice A2 (k + 1) c2))) := Lib.hid ⟨block_set_other HR9.out (by first | (simp; done) | (simp; omega)), hlt7, block_set_other HZ9.out (by first | (simp; done) | (simp; omega)), cells_eq (b := #[.int .i64 id, .bool (an == 1), .int .i64 code, .string ⟨nm.toArray⟩, .int .i64 kd, .slice A2 (k + 1) c2]) (block_setCell (k := 5) HD9.out) rfl, SRow.kept HRw9.out (fun x hx => by have hne : w.heap.size + 1 ≠ x.block := fun e => hoD9 ⟨x, hx, e.symm⟩; simp [World.setCell, Array.getElem?_modify, hne]), by rw [List.length_append, hln]; rfl, fun r hr => by rcases List.mem_append.1 hr with h | h; exact HFs.out r h; rw [List.mem_singleton.1 h]; exact HOK7.out, HI.out.eq.trans HX7.out, only_set HG9.out (.inr (by simp)) _⟩
          go_wp2_with fail
          exact ⟨⟨k + 1, _, A2, c2, a', by omega, by go_num, HIn.out⟩, by simp [Go.RowKit.intOf]; omega⟩
        case mo9 =>
          refine AllReadyH.cons (o := ⟨some 34, _, _, _, _, _⟩) rfl (fun K14 hK14 => ?_) AllReadyH.nil
          go_simp
          refine hK14.out _ _ trivial (fun _ => ?_)
          try simp only [Act.put, List.setIfInBounds_toArray, List.set_cons_zero, List.set_cons_succ]
          have HN8 := Lib.hid (alloc_new w7 (.cells #[.string ⟨rn.toArray⟩, .int .i64 rk, .int .i64 rt, .int .i64 ra, .string ⟨rdd.toArray⟩] 92))
          have HD8 := Lib.hid (block_alloc HDc.out (.cells #[.string ⟨rn.toArray⟩, .int .i64 rk, .int .i64 rt, .int .i64 ra, .string ⟨rdd.toArray⟩] 92)); have HZ8 := Lib.hid (block_alloc HZc.out (.cells #[.string ⟨rn.toArray⟩, .int .i64 rk, .int .i64 rt, .int .i64 ra, .string ⟨rdd.toArray⟩] 92)); have HR8 := Lib.hid (block_alloc HRr.out (.cells #[.string ⟨rn.toArray⟩, .int .i64 rk, .int .i64 rt, .int .i64 ra, .string ⟨rdd.toArray⟩] 92)); clear HDc HZc HRr; have HDc := HD8; have HZc := HZ8; have HRr := HR8; clear HD8 HZ8 HR8
          have HRw8 := Lib.hid (HRw.out.below ((Below.refl w7.heap.size w7).alloc (Nat.le_refl _) (.cells #[.string ⟨rn.toArray⟩, .int .i64 rk, .int .i64 rt, .int .i64 ra, .string ⟨rdd.toArray⟩] 92))); clear HRw; have HRw := HRw8; clear HRw8
          have HG8 := Lib.hid (only_alloc (o := .cells #[.string ⟨rn.toArray⟩, .int .i64 rk, .int .i64 rt, .int .i64 ra, .string ⟨rdd.toArray⟩] 92) HGc.out); clear HGc; have HGc := HG8; clear HG8
          have hs8 : w7.heap.size + 1 = (w7.alloc (.cells #[.string ⟨rn.toArray⟩, .int .i64 rk, .int .i64 rt, .int .i64 ra, .string ⟨rdd.toArray⟩] 92)).heap.size := by simp
          generalize w7.alloc (.cells #[.string ⟨rn.toArray⟩, .int .i64 rk, .int .i64 rt, .int .i64 ra, .string ⟨rdd.toArray⟩] 92) = w8 at *
          refine wpAnyH_ready (rs := [1]) (by kernel_rfl) (by simp) ?_
          refine AllReadyH.cons (o := ⟨some 31, _, _, _, _, _⟩) rfl (fun K15 hK15 => ?_) AllReadyH.nil
          have dl := (cell_of_block (k := 5) HDc.out rfl).1
          go_simp
          refine hK15.out _ _ trivial (fun _ => ?_)
          try simp only [Act.put, List.setIfInBounds_toArray, List.set_cons_zero, List.set_cons_succ]
          clear dl
          obtain ⟨i0, hi, hz0, hz1, hz2⟩ := info_parts infoRecF
          have lDc := blk_lt HDc.out
          refine wpAnyH_ready (rs := [5]) (by kernel_rfl) (by simp) ?_
          refine AllReadyH.cons (o := ⟨some 35, _, _, _, _, _⟩) rfl (fun K16 hK16 => ?_) AllReadyH.nil
          have HC8 : Hid (([⟨rn, rk, rt, ra, rdd⟩] : List Rec).flatMap rcells = [.string ⟨rn.toArray⟩, .int .i64 rk, .int .i64 rt, .int .i64 ra, .string ⟨rdd.toArray⟩]) := Lib.hid rfl
          refine step_app rfl (.tmp 31) (.tmp 34) 37 rfl HRw.out rcells_len i0 _ 56 Tryz.underlying37 hi hz0 hz1 hz2 rfl (by decide) k hln _ _ _ [⟨rn, rk, rt, ra, rdd⟩] rfl rfl rfl (fun _ => ⟨_, rfl, by rw [HC8.out]; exact World.news_of_block HN8.out⟩) (by rw [HC8.out]; intro u hu; simp at hu; rcases hu with rfl | rfl | rfl | rfl | rfl <;> rfl) (by unfold maxLen; omega) (by omega) (by omega) ?_
          intro A2 c2 w9 ho hg ha
          have hoD := HRw.out.off HDc.out; have hoZ := HRw.out.off HZc.out
          have HD9 := Lib.hid ((hg.block _ (blk_lt HDc.out) (fun e => hoD (ob_bk e.symm))).trans HDc.out)
          have HZ9 := Lib.hid ((hg.block _ (blk_lt HZc.out) (fun e => hoZ (ob_bk e.symm))).trans HZc.out)
          have HR9 := Lib.hid ((hg.block _ (blk_lt HRr.out) (fun e => by have := (HRw.out.bk' (ob_bk e.symm)).1; omega)).trans HRr.out)
          have HG9 : Hid (w.grownBy w9 (some R)) := Lib.hid ⟨hg.os.trans HGc.out.os, hg.tape.trans HGc.out.tape, hg.output.trans HGc.out.output, Nat.le_trans HGc.out.size hg.size, fun i hi2 hne => (hg.block i (by have := HGc.out.size; omega) (fun e => by have := (HRw.out.bk' (ob_bk e.symm)).1; omega)).trans (HGc.out.block i hi2 hne)⟩
          have HRw9 : Hid (RRow w9 w.heap.size A2 c2 (acc ++ [⟨rn, rk, rt, ra, rdd⟩])) := Lib.hid ho
          clear ho hg ha hoD hoZ
          refine hK16.out _ _ trivial (fun _ => ?_)
          try simp only [Act.put, List.setIfInBounds_toArray, List.set_cons_zero, List.set_cons_succ]
          refine wpAnyH_take (i := 6) (oi := ⟨some 36, _, _, _, _, _⟩) (v := ?vt17x6) rfl (by kernel_rfl) (by kernel_rfl) (by kernel_rfl) (fun _ _ _ h => h) (Or.inl ⟨by rfl, ?hyt17x6⟩) (by exact trivial) ?ret17x6
          case hyt17x6 => (intro ww hSw; (try dsimp only at hSw); go_simp; first | done | with_reducible rfl)
          try simp only [Act.put, List.setIfInBounds_toArray, List.set_cons_zero, List.set_cons_succ]
          refine wpAnyH_ready (rs := [7]) (by kernel_rfl) (by simp) ?_
          refine AllReadyH.cons (o := ⟨none, _, _, _, _, _⟩) rfl (fun K18 hK18 => ?_) AllReadyH.nil
          have d9 := (cell_of_block (k := 5) HD9.out rfl).1; have z9 := (cell_of_block (k := 5) HD9.out rfl).2
          go_simp
          refine hK18.out _ _ trivial (fun _ => ?_)
          try simp only [Act.put, List.setIfInBounds_toArray, List.set_cons_zero, List.set_cons_succ]
          refine wpAnyH_done (by kernel_rfl) ?_ _
          clear d9 z9
          have hoD9 := HRw9.out.off HD9.out
          have HIn : Hid (MgI w R s id an code nm kd n (restOf s a6) (k + 1) (acc ++ [⟨rn, rk, rt, ra, rdd⟩]) A2 c2 a' (w9.setCell ⟨w.heap.size + 1, 5, none⟩ (.slice A2 (k + 1) c2))) := Lib.hid ⟨block_set_other HR9.out (by first | (simp; done) | (simp; omega)), hlt7, block_set_other HZ9.out (by first | (simp; done) | (simp; omega)), cells_eq (b := #[.int .i64 id, .bool (an == 1), .int .i64 code, .string ⟨nm.toArray⟩, .int .i64 kd, .slice A2 (k + 1) c2]) (block_setCell (k := 5) HD9.out) rfl, SRow.kept HRw9.out (fun x hx => by have hne : w.heap.size + 1 ≠ x.block := fun e => hoD9 ⟨x, hx, e.symm⟩; simp [World.setCell, Array.getElem?_modify, hne]), by rw [List.length_append, hln]; rfl, fun r hr => by rcases List.mem_append.1 hr with h | h; exact HFs.out r h; rw [List.mem_singleton.1 h]; exact HOK7.out, HI.out.eq.trans HX7.out, only_set HG9.out (.inr (by simp)) _⟩
          go_wp2_with fail
          exact ⟨⟨k + 1, _, A2, c2, a', by omega, by go_num, HIn.out⟩, by simp [Go.RowKit.intOf]; omega⟩
    · have hkl : decide ((k : Int) < (n : Int)) = false := decide_eq_false (by omega)
      obtain rfl : k = n := by omega
      have hln := HI.out.len
      have HEn : Hid (res = some (⟨id, decide (an = 1), code, nm, kd, acc⟩, restOf s a)) := Lib.hid (by rw [HE.out, HI.out.eq, Nat.sub_self]; rfl)
      obtain ⟨⟨p0, p1, p2, p3, p4, p5⟩, f0, f1, f2, f3, f4, f5⟩ := cells6 HI.out.d
      obtain ⟨⟨q0, q1, q2, q3, q4, q5⟩, g0, g1, g2, g3, g4, g5⟩ := cells6 HI.out.z
      go_wp2_with fail
      have HY := cells_eq (b := #[.int .i64 id, .bool (an == 1), .int .i64 code, .string ⟨nm.toArray⟩, .int .i64 kd, .slice A k c]) (block_setCell (k := 5) (v := .slice A k c) (block_setCell (k := 4) (v := .int .i64 kd) (block_setCell (k := 3) (v := .string ⟨nm.toArray⟩) (block_setCell (k := 2) (v := .int .i64 code) (block_setCell (k := 1) (v := .bool (an == 1)) (block_setCell (k := 0) (v := .int .i64 id) HI.out.z)))))) rfl
      have HGf := (only_set (p := ⟨w.heap.size, 5, none⟩) (only_set (p := ⟨w.heap.size, 4, none⟩) (only_set (p := ⟨w.heap.size, 3, none⟩) (only_set (p := ⟨w.heap.size, 2, none⟩) (only_set (p := ⟨w.heap.size, 1, none⟩) (only_set (p := ⟨w.heap.size, 0, none⟩) HI.out.gr (.inr (Nat.le_refl _)) (.int .i64 id)) (.inr (Nat.le_refl _)) (.bool (an == 1))) (.inr (Nat.le_refl _)) (.int .i64 code)) (.inr (Nat.le_refl _)) (.string ⟨nm.toArray⟩)) (.inr (Nat.le_refl _)) (.int .i64 kd)) (.inr (Nat.le_refl _)) (.slice A k c))
      have hoff := HI.out.row.off HI.out.z
      have HRowF : RRow _ w.heap.size A c acc := SRow.kept HI.out.row (W' := (World.setCell (World.setCell (World.setCell (World.setCell (World.setCell (World.setCell wr ⟨w.heap.size, 0, none⟩ (.int .i64 id)) ⟨w.heap.size, 1, none⟩ (.bool (an == 1))) ⟨w.heap.size, 2, none⟩ (.int .i64 code)) ⟨w.heap.size, 3, none⟩ (.string ⟨nm.toArray⟩)) ⟨w.heap.size, 4, none⟩ (.int .i64 kd)) ⟨w.heap.size, 5, none⟩ (.slice A k c))) (fun x hx => by have hne : w.heap.size ≠ x.block := fun e => hoff ⟨x, hx, e.symm⟩; simp [World.setCell, Array.getElem?_modify, hne])
      refine bodyPost_ret (v := .agg #[.int .i64 id, .bool (an == 1), .int .i64 code, .string ⟨nm.toArray⟩, .int .i64 kd, .slice A k c]) (res_cell1 Tryz.results66 (by exact HY) rfl Tryz.underlying39 rfl infoMsg) rfl ((HPost.out _ _).2 ⟨HGf, .inr ⟨⟨id, decide (an = 1), code, nm, kd, acc⟩, restOf s a, A, c, HEn.out, ?_, ⟨by show nm.length ≤ _; omega, by show acc.length ≤ _; omega, HI.out.fits⟩, HRowF⟩⟩)
      show Ending.returned (.agg #[.int .i64 id, .bool (an == 1), .int .i64 code, .string ⟨nm.toArray⟩, .int .i64 kd, .slice A k c]) = Ending.returned (.agg #[.int .i64 id, .bool (decide (an = 1)), .int .i64 code, .string ⟨nm.toArray⟩, .int .i64 kd, .slice A acc.length c])
      rw [hln, show (an == 1) = decide (an = 1) from by rw [Bool.eq_iff_iff]; simp]
end Go.Proofs.YtmgjcjacoegocaaGreatDoor.Dn
