/-
  The contract of the reader's record.
-/
import Derived.Test.YtmgjcjacoegocaaGreatDoorDnRn
import Derived.Test.YtmgjcjacoegocaaGreatDoorDnMsg
namespace Go.Proofs.YtmgjcjacoegocaaGreatDoor.Dn
set_option maxRecDepth 100000
open Go.RowKit Go.Proofs.YtmgjcjacoegocaaGreatDoor.Wire Go.Proofs.YtmgjcjacoegocaaGreatDoor.Rw

theorem infoRec : (Tryz.prog.info? 92).map (·.size) = some 5 := by kernel_rfl
def rec0 : Obj := .cells #[.string ⟨#[]⟩, .int .i64 0, .int .i64 0, .int .i64 0, .string ⟨#[]⟩] 92
set_option maxHeartbeats 8000000 in
theorem record_r (R : Nat) (s : ByteArray) (at_ : Nat) (w : World) (hR : w.heap[R]? = some (rdO s at_)) (hat : at_ ≤ s.size) (hs : s.size ≤ 1000000) :
    Calls Tryz.prog 104 #[.pointer (some ⟨R, 0, none⟩)] w (RdPost R s at_ w (rdRec (restOf s at_)) (fun r => .agg (rcells r).toArray) Rec.fits) := by
  have hRw := blk_lt hR
  have H0 := Lib.hid (block_alloc hR rec0)
  have HZ0 := Lib.hid (alloc_new w rec0)
  have HG0 : Hid (w.grownBy (w.alloc rec0) (some R)) := Lib.hid (only_of_below ((Below.refl w.heap.size w).alloc (Nat.le_refl _) rec0))
  have HE : Hid (rdRec (restOf s at_) = (rdName 62 [] (restOf s at_)).bind fun (nm, l1) => (rdNum 1 l1).bind fun (kd, l2) => (rdNum 2 l2).bind fun (ttl, l3) => if kd = 2 then (rdName 62 [] l3).bind fun (dst, l4) => some (⟨nm, kd, ttl, 0, dst⟩, l4) else (rdNum 4 l3).bind fun (addr, l4) => some (⟨nm, kd, ttl, addr, []⟩, l4)) := Lib.hid rfl
  generalize rdRec (restOf s at_) = res at *
  clear hR
  unfold rec0 at *
  go_enter Tryz.func104, Tryz.ntmps104
  go_wp2_with fail
  refine (name_r R s at_ _ H0.out hat hs).mono ?_
  rintro e w1 ⟨hg1, ⟨hn1, rfl⟩ | ⟨nm, a1, hn1, hle1, hlt1, rfl, hok1, hr1⟩⟩
  · have HX : Hid (res = none) := Lib.hid (by rw [HE.out, hn1]; rfl)
    unfold panE
    go_wp2_with fail
    refine bodyPost_pan rfl ?_
    exact ⟨HG0.out.trans hg1, .inl ⟨HX.out, rfl⟩⟩
  rw [hn1, Option.bind_some] at HE
  dsimp only at HE
  have HG1 := Lib.hid (HG0.out.trans hg1)
  have HZ1 := Lib.hid ((hg1.block w.heap.size (by simp) (by intro e; injection e with e; omega)).trans HZ0.out)
  have HR1 := Lib.hid hr1
  clear HG0 HZ0 H0 hg1 hn1 hr1
  have HN1 := Lib.hid (number_r R s a1 1 w1 HR1.out hlt1 hs (by omega) (by omega))
  rw [show ((1 : Nat) : Int) = 1 from rfl] at HN1
  go_wp2_with fail
  refine HN1.out.mono ?_
  rintro e w2 ⟨hg2, ⟨hn2, rfl⟩ | ⟨kd, a2, hn2, hle2, hlt2, rfl, hok2, hr2⟩⟩
  · have HX : Hid (res = none) := Lib.hid (by rw [HE.out, hn2]; rfl)
    unfold panE
    go_wp2_with fail
    refine bodyPost_pan rfl ?_
    exact ⟨HG1.out.trans hg2, .inl ⟨HX.out, rfl⟩⟩
  rw [hn2, Option.bind_some] at HE
  dsimp only at HE
  have HG2 := Lib.hid (HG1.out.trans hg2)
  have HZ2 := Lib.hid ((hg2.block w.heap.size (blk_lt HZ1.out) (by intro e; injection e with e; omega)).trans HZ1.out)
  have HR2 := Lib.hid hr2
  clear HG1 HZ1 HR1 HN1 hg2 hn2 hr2
  have HN2 := Lib.hid (number_r R s a2 2 w2 HR2.out hlt2 hs (by omega) (by omega))
  rw [show ((2 : Nat) : Int) = 2 from rfl] at HN2
  go_wp2_with fail
  refine HN2.out.mono ?_
  rintro e w3 ⟨hg3, ⟨hn3, rfl⟩ | ⟨ttl, a3, hn3, hle3, hlt3, rfl, hok3, hr3⟩⟩
  · have HX : Hid (res = none) := Lib.hid (by rw [HE.out, hn3]; rfl)
    unfold panE
    go_wp2_with fail
    refine bodyPost_pan rfl ?_
    exact ⟨HG2.out.trans hg3, .inl ⟨HX.out, rfl⟩⟩
  rw [hn3, Option.bind_some] at HE
  dsimp only at HE
  have HG3 := Lib.hid (HG2.out.trans hg3)
  have HZ3 := Lib.hid ((hg3.block w.heap.size (blk_lt HZ2.out) (by intro e; injection e with e; omega)).trans HZ2.out)
  have HR3 := Lib.hid hr3
  clear HG2 HZ2 HR2 HN2 hg3 hn3 hr3
  have hz3 := blk_lt HZ3.out
  have HR4 := Lib.hid (block_alloc HR3.out (.cells #[.string ⟨nm.toArray⟩, .int .i64 kd, .int .i64 ttl, .int .i64 0, .string ⟨#[]⟩] 92))
  have HZ4 := Lib.hid (block_alloc HZ3.out (.cells #[.string ⟨nm.toArray⟩, .int .i64 kd, .int .i64 ttl, .int .i64 0, .string ⟨#[]⟩] 92))
  have HX4 := Lib.hid (alloc_new w3 (.cells #[.string ⟨nm.toArray⟩, .int .i64 kd, .int .i64 ttl, .int .i64 0, .string ⟨#[]⟩] 92))
  have HG4 := Lib.hid (only_alloc (o := .cells #[.string ⟨nm.toArray⟩, .int .i64 kd, .int .i64 ttl, .int .i64 0, .string ⟨#[]⟩] 92) HG3.out)
  have hRlt := blk_lt HR3.out
  clear HG3 HZ3 HR3
  by_cases hk : kd = 2
  · subst hk
    rw [if_pos rfl] at HE
    have HN4 := Lib.hid (name_r R s a3 _ HR4.out hlt3 hs)
    go_wp2_with fail
    refine HN4.out.mono ?_
    rintro e w4 ⟨hg4, ⟨hn4, rfl⟩ | ⟨dst, a4, hn4, hle4, hlt4, rfl, hok4, hr4⟩⟩
    · have HX : Hid (res = none) := Lib.hid (by rw [HE.out, hn4]; rfl)
      unfold panE
      go_wp2_with fail
      refine bodyPost_pan rfl ?_
      exact ⟨HG4.out.trans hg4, .inl ⟨HX.out, rfl⟩⟩
    rw [hn4, Option.bind_some] at HE
    have HE2 : Hid (res = some (⟨nm, 2, ttl, 0, dst⟩, restOf s a4)) := Lib.hid HE.out
    have HX5 := Lib.hid ((hg4.block w3.heap.size (by simp) (by intro e; injection e with e; omega)).trans HX4.out)
    have HZ5 := Lib.hid ((hg4.block w.heap.size (by simp; omega) (by intro e; injection e with e; omega)).trans HZ4.out)
    have HG5 := Lib.hid (HG4.out.trans hg4)
    have HR5 := Lib.hid hr4
    clear HG4 HZ4 HX4 HR4 HN4 HE hg4 hn4 hr4
    obtain ⟨⟨p0, p1, p2, p3, p4⟩, f0, f1, f2, f3, f4⟩ := cells5 HX5.out
    obtain ⟨⟨q0, q1, q2, q3, q4⟩, g0, g1, g2, g3, g4⟩ := cells5 HZ5.out
    go_wp2_with fail
    have HY := cells_eq (b := #[.string ⟨nm.toArray⟩, .int .i64 2, .int .i64 ttl, .int .i64 0, .string ⟨dst.toArray⟩]) (block_setCell (k := 4) (v := .string ⟨dst.toArray⟩) (block_setCell (k := 3) (v := .int .i64 0) (block_setCell (k := 2) (v := .int .i64 ttl) (block_setCell (k := 1) (v := .int .i64 2) (block_setCell (k := 0) (v := .string ⟨nm.toArray⟩) (block_set_other (a := ⟨w3.heap.size, 4, none⟩) (u := .string ⟨dst.toArray⟩) HZ5.out (by first | (simp; done) | (simp; omega)))))))) rfl
    have HRf := (block_set_other (a := ⟨w.heap.size, 4, none⟩) (u := .string ⟨dst.toArray⟩) (block_set_other (a := ⟨w.heap.size, 3, none⟩) (u := .int .i64 0) (block_set_other (a := ⟨w.heap.size, 2, none⟩) (u := .int .i64 ttl) (block_set_other (a := ⟨w.heap.size, 1, none⟩) (u := .int .i64 2) (block_set_other (a := ⟨w.heap.size, 0, none⟩) (u := .string ⟨nm.toArray⟩) (block_set_other (a := ⟨w3.heap.size, 4, none⟩) (u := .string ⟨dst.toArray⟩) HR5.out (by first | (simp; done) | (simp; omega))) (by first | (simp; done) | (simp; omega))) (by first | (simp; done) | (simp; omega))) (by first | (simp; done) | (simp; omega))) (by first | (simp; done) | (simp; omega))) (by first | (simp; done) | (simp; omega)))
    have HGf := (only_set (p := ⟨w.heap.size, 4, none⟩) (only_set (p := ⟨w.heap.size, 3, none⟩) (only_set (p := ⟨w.heap.size, 2, none⟩) (only_set (p := ⟨w.heap.size, 1, none⟩) (only_set (p := ⟨w.heap.size, 0, none⟩) (only_set (p := ⟨w3.heap.size, 4, none⟩) HG5.out (.inr (by show w.heap.size ≤ w3.heap.size; omega)) (.string ⟨dst.toArray⟩)) (.inr (Nat.le_refl _)) (.string ⟨nm.toArray⟩)) (.inr (Nat.le_refl _)) (.int .i64 2)) (.inr (Nat.le_refl _)) (.int .i64 ttl)) (.inr (Nat.le_refl _)) (.int .i64 0)) (.inr (Nat.le_refl _)) (.string ⟨dst.toArray⟩))
    refine bodyPost_ret (v := .agg #[.string ⟨nm.toArray⟩, .int .i64 2, .int .i64 ttl, .int .i64 0, .string ⟨dst.toArray⟩]) (res_cell1 Tryz.results104 (by exact HY) rfl Tryz.underlying92 rfl infoRec) rfl ⟨HGf, .inr ⟨⟨nm, 2, ttl, 0, dst⟩, a4, HE2.out, by omega, hlt4, rfl, ⟨by show nm.length ≤ _; omega, by show dst.length ≤ _; omega⟩, HRf⟩⟩
  · rw [if_neg hk] at HE
    have hkb : (kd == 2) = false := by simp [hk]
    have HN4 := Lib.hid (number_r R s a3 4 _ HR4.out hlt3 hs (by omega) (by omega))
    rw [show ((4 : Nat) : Int) = 4 from rfl] at HN4
    go_wp2_with fail
    refine HN4.out.mono ?_
    rintro e w4 ⟨hg4, ⟨hn4, rfl⟩ | ⟨addr, a4, hn4, hle4, hlt4, rfl, hok4, hr4⟩⟩
    · have HX : Hid (res = none) := Lib.hid (by rw [HE.out, hn4]; rfl)
      unfold panE
      go_wp2_with fail
      refine bodyPost_pan rfl ?_
      exact ⟨HG4.out.trans hg4, .inl ⟨HX.out, rfl⟩⟩
    rw [hn4, Option.bind_some] at HE
    have HE2 : Hid (res = some (⟨nm, kd, ttl, addr, []⟩, restOf s a4)) := Lib.hid HE.out
    have HX5 := Lib.hid ((hg4.block w3.heap.size (by simp) (by intro e; injection e with e; omega)).trans HX4.out)
    have HZ5 := Lib.hid ((hg4.block w.heap.size (by simp; omega) (by intro e; injection e with e; omega)).trans HZ4.out)
    have HG5 := Lib.hid (HG4.out.trans hg4)
    have HR5 := Lib.hid hr4
    clear HG4 HZ4 HX4 HR4 HN4 HE hg4 hn4 hr4
    obtain ⟨⟨p0, p1, p2, p3, p4⟩, f0, f1, f2, f3, f4⟩ := cells5 HX5.out
    obtain ⟨⟨q0, q1, q2, q3, q4⟩, g0, g1, g2, g3, g4⟩ := cells5 HZ5.out
    go_wp2_with fail
    have HY := cells_eq (b := #[.string ⟨nm.toArray⟩, .int .i64 kd, .int .i64 ttl, .int .i64 addr, .string ⟨#[]⟩]) (block_setCell (k := 4) (v := .string ⟨#[]⟩) (block_setCell (k := 3) (v := .int .i64 addr) (block_setCell (k := 2) (v := .int .i64 ttl) (block_setCell (k := 1) (v := .int .i64 kd) (block_setCell (k := 0) (v := .string ⟨nm.toArray⟩) (block_set_other (a := ⟨w3.heap.size, 3, none⟩) (u := .int .i64 addr) HZ5.out (by first | (simp; done) | (simp; omega)))))))) rfl
    have HRf := (block_set_other (a := ⟨w.heap.size, 4, none⟩) (u := .string ⟨#[]⟩) (block_set_other (a := ⟨w.heap.size, 3, none⟩) (u := .int .i64 addr) (block_set_other (a := ⟨w.heap.size, 2, none⟩) (u := .int .i64 ttl) (block_set_other (a := ⟨w.heap.size, 1, none⟩) (u := .int .i64 kd) (block_set_other (a := ⟨w.heap.size, 0, none⟩) (u := .string ⟨nm.toArray⟩) (block_set_other (a := ⟨w3.heap.size, 3, none⟩) (u := .int .i64 addr) HR5.out (by first | (simp; done) | (simp; omega))) (by first | (simp; done) | (simp; omega))) (by first | (simp; done) | (simp; omega))) (by first | (simp; done) | (simp; omega))) (by first | (simp; done) | (simp; omega))) (by first | (simp; done) | (simp; omega)))
    have HGf := (only_set (p := ⟨w.heap.size, 4, none⟩) (only_set (p := ⟨w.heap.size, 3, none⟩) (only_set (p := ⟨w.heap.size, 2, none⟩) (only_set (p := ⟨w.heap.size, 1, none⟩) (only_set (p := ⟨w.heap.size, 0, none⟩) (only_set (p := ⟨w3.heap.size, 3, none⟩) HG5.out (.inr (by show w.heap.size ≤ w3.heap.size; omega)) (.int .i64 addr)) (.inr (Nat.le_refl _)) (.string ⟨nm.toArray⟩)) (.inr (Nat.le_refl _)) (.int .i64 kd)) (.inr (Nat.le_refl _)) (.int .i64 ttl)) (.inr (Nat.le_refl _)) (.int .i64 addr)) (.inr (Nat.le_refl _)) (.string ⟨#[]⟩))
    refine bodyPost_ret (v := .agg #[.string ⟨nm.toArray⟩, .int .i64 kd, .int .i64 ttl, .int .i64 addr, .string ⟨#[]⟩]) (res_cell1 Tryz.results104 (by exact HY) rfl Tryz.underlying92 rfl infoRec) rfl ⟨HGf, .inr ⟨⟨nm, kd, ttl, addr, []⟩, a4, HE2.out, by omega, hlt4, rfl, ⟨by show nm.length ≤ _; omega, by simp⟩, HRf⟩⟩
end Go.Proofs.YtmgjcjacoegocaaGreatDoor.Dn
