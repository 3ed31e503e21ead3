/-
  The contract of the reader's name.
-/
import Derived.Test.YtmgjcjacoegocaaGreatDoorDnRd
namespace Go.Proofs.YtmgjcjacoegocaaGreatDoor.Dn
set_option maxRecDepth 100000
open Go.RowKit Go.Proofs.YtmgjcjacoegocaaGreatDoor.Wire

theorem grown_low {w W W' : World} {R : Nat} (h : w.grownBy W (some R)) (hb : Below w.heap.size W W') : w.grownBy W' (some R) :=
  ⟨hb.os.trans h.os, hb.tape.trans h.tape, hb.output.trans h.output, Nat.le_trans h.size hb.size, fun i hi hne => (hb.block i hi).trans (h.block i hi hne)⟩
theorem isB_grown {B b : Nat} {l : List UInt8} {W W' : World} {R : Nat} (h : IsB B b l W) (hg : W.grownBy W' (some R)) (hR : R < B) : IsB B b l W' := by
  have hbl := isB_lt h
  have hle := isB_le h
  have q : ∀ p, Lib.BuilderAt 107 5 B b p (Lib.byteCells l) W → Lib.BuilderAt 107 5 B b p (Lib.byteCells l) W' := fun p h => by
    obtain ⟨hB, v, hk, hown, hne⟩ := h
    refine ⟨hB, v, (hg.block b hbl (by intro e; injection e with e; omega)).trans hk, hown.kept hg (Or.inr ?_), hne⟩
    intro e
    have := (hown.lt R e).1
    omega
  rcases h with h | h
  · exact .inl (q _ h)
  · exact .inr (q _ h)
/-- what is read behind the length of a label -/
def cont (m : Nat) (acc : List UInt8) (n : Nat) (r : List UInt8) : Option (List UInt8 × List UInt8) :=
  if n = 0 then some (acc, r) else if 20 < n ∨ r.length < n ∨ 60 < acc.length + n then none else
    rdName m ((if acc.length = 0 then [] else acc ++ [46]) ++ r.take n) (r.drop n)
theorem rdName_cont (m : Nat) (acc : List UInt8) (b : UInt8) (r : List UInt8) : rdName (m + 1) acc (b :: r) = cont m acc b.toNat r := by rw [rdName]; rfl
theorem rdName_nil (m : Nat) (acc : List UInt8) : rdName m acc [] = none := by cases m <;> rfl
/-- the next length: rdNum 1 beside rdName -/
theorem rdName_next (m : Nat) (acc : List UInt8) (s : ByteArray) (a : Nat) : (rdNum 1 (restOf s a) = none ∧ rdName (m + 1) acc (restOf s a) = none) ∨ (∃ n : Nat, n ≤ 255 ∧ rdNum 1 (restOf s a) = some ((n : Int), restOf s (a + 1)) ∧ rdName (m + 1) acc (restOf s a) = cont m acc n (restOf s (a + 1))) := by
  have hd := restOf_drop s a 1
  generalize restOf s a = l at *
  cases l with
  | nil => exact .inl ⟨rfl, rfl⟩
  | cons b r =>
    refine .inr ⟨b.toNat, by have := b.toNat_lt; omega, ?_, ?_⟩
    · rw [← hd]; simp [rdNum, num]
    · rw [rdName_cont, ← hd]; rfl
def posAt (W : World) (R : Nat) : Nat := match W.cell? ⟨R, 1, none⟩ with
  | some (.int _ m) => m.toNat
  | _ => 0
theorem posAt_eq {W : World} {R : Nat} {s : ByteArray} {a : Nat} (h : W.heap[R]? = some (rdO s a)) : posAt W R = a := by
  unfold posAt
  rw [(cell_of_block (k := 1) h rfl).1]
  simp
structure NmI (w : World) (R : Nat) (s : ByteArray) (at_ : Nat) (m : Nat) (acc : List UInt8) (n : Nat) (a : Nat) (W : World) : Prop where
  rd : W.heap[R]? = some (rdO s a)
  bl : IsB w.heap.size w.heap.size acc W
  gr : w.grownBy W (some R)
  n255 : n ≤ 255
  fuel : 61 ≤ m + acc.length
  le : acc.length ≤ 61
  le2 : at_ ≤ a ∧ a ≤ s.size
  eq : rdName 62 [] (restOf s at_) = cont m acc n (restOf s a)
set_option maxHeartbeats 8000000 in
theorem name_r (R : Nat) (s : ByteArray) (at_ : Nat) (w : World) (hR : w.heap[R]? = some (rdO s at_)) (hat : at_ ≤ s.size) (hs : s.size ≤ 1000000) :
    Calls Tryz.prog 103 #[.pointer (some ⟨R, 0, none⟩)] w (RdPost R s at_ w (rdName 62 [] (restOf s at_)) (fun l => .string ⟨l.toArray⟩) (fun l => l.length ≤ 61)) := by
  have hRw := blk_lt hR
  have H0 := Lib.hid (block_alloc hR (.cells #[.pointer none, .slice none 0 0] 107))
  have HB0 := Lib.hid (isB_new w)
  have hb0 := (Below.refl w.heap.size w).alloc (Nat.le_refl _) (.cells #[.pointer none, .slice none 0 0] 107)
  have HG0 : Hid (w.grownBy (w.alloc (.cells #[.pointer none, .slice none 0 0] 107)) (some R)) := Lib.hid (only_of_below hb0)
  have hpi := pan_iface
  clear hb0 hR
  go_enter Tryz.func103, Tryz.ntmps103
  go_wp2_with fail
  refine (number_r R s at_ 1 _ H0.out hat hs (by omega) (by omega)).mono ?_
  rintro e w1 ⟨hg1, ⟨hn, rfl⟩ | ⟨n1, a1, hn, hle1, hle2, rfl, -, hr1⟩⟩
  · rcases rdName_next 61 [] s at_ with ⟨-, q⟩ | ⟨n, -, q, -⟩
    · have HQ := Lib.hid q
      have HG := Lib.hid (HG0.out.trans hg1)
      unfold panE
      go_wp2_with fail
      refine bodyPost_pan rfl ?_
      exact ⟨HG.out, .inl ⟨HQ.out, rfl⟩⟩
    · rw [hn] at q; cases q
  · rcases rdName_next 61 [] s at_ with ⟨q, -⟩ | ⟨n, hn255, q, q2⟩
    · rw [hn] at q; cases q
    · rw [hn] at q
      simp only [Option.some.injEq, Prod.mk.injEq] at q
      obtain ⟨rfl, hrest⟩ := q
      have HI : Hid (NmI w R s at_ 61 [] n a1 w1) := Lib.hid ⟨hr1, isB_grown HB0.out hg1 hRw, HG0.out.trans hg1, hn255, by simp, by simp, ⟨hle1, hle2⟩, by rw [q2, ← hrest]⟩
      clear hn hr1 hrest q2 hg1 H0 HB0 HG0
      go_wp2_with fail
      go_loopw [4] (fun u wr => ∃ (m : Nat) (acc : List UInt8) (n a : Nat), u = .int .i64 (n : Int) ∧ NmI w R s at_ m acc n a wr) (fun u wr => s.size - posAt wr R)
      case atStart => exact ⟨61, [], n, a1, rfl, HI.out⟩
      case round =>
        clear HI
        obtain ⟨m, acc, n, a, rfl, hI⟩ := hrel
        have HI := Lib.hid hI; clear hI
        have h255 := HI.out.n255; have hal := HI.out.le; have hle2 := HI.out.le2.2
        have HLen : Hid (∀ W, IsB w.heap.size w.heap.size acc W → Calls Tryz.prog 119 #[.pointer (some ⟨w.heap.size, 0, none⟩)] W fun e w' => e = .returned (.int .i64 (acc.length : Int)) ∧ w' = W) := Lib.hid fun W h => (len_any _ _ acc W h).mono fun _ _ ⟨q1, q2⟩ => ⟨q1, q2.symm⟩
        have c0 := (cell_of_block (k := 0) HI.out.rd rfl).1
        have c1 := (cell_of_block (k := 1) HI.out.rd rfl).1
        have hrl := restOf_len s a
        by_cases hn0 : n = 0
        · have HE : Hid (rdName 62 [] (restOf s at_) = some (acc, restOf s a)) := Lib.hid (by rw [HI.out.eq]; unfold cont; rw [if_pos hn0])
          subst hn0
          go_wp2_with fail
          refine (bstring_any _ _ acc _ HI.out.bl).mono ?_
          rintro e w3 ⟨rfl, hb3⟩
          go_wp2_with fail
          go_ret
          exact ⟨grown_low HI.out.gr hb3, .inr ⟨acc, a, HE.out, HI.out.le2.1, hle2, rfl, hal, (hb3.block R hRw).trans HI.out.rd⟩⟩
        · have hnz : ((n : Int) != 0) = true := by simp; omega
          have k1 : IntKind.i64.wrap ((s.size : Int) - (a : Int)) = (s.size : Int) - (a : Int) := IntWalk.i64_in _ (by omega)
          have k2 : IntKind.i64.wrap ((acc.length : Int) + (n : Int)) = (acc.length : Int) + (n : Int) := IntWalk.i64_in _ (by omega)
          by_cases hbad : 20 < n ∨ s.size - a < n ∨ 60 < acc.length + n
          · have HE : Hid (rdName 62 [] (restOf s at_) = none) := Lib.hid (by rw [HI.out.eq]; unfold cont; rw [if_neg hn0, if_pos (by omega)])
            by_cases b1 : 20 < n
            · have d1 : decide ((20 : Int) < (n : Int)) = true := by simp; omega
              go_upto_region 5 with fail
              go_quiet ((go_at_call 119; exact Calls.quiet_of_same (HLen.out _ (by exact HI.out.bl))))
              go_wp2_with fail
              refine bodyPost_pan rfl ?_
              exact ⟨⟨HI.out.gr.os, HI.out.gr.tape, HI.out.gr.output, HI.out.gr.size, HI.out.gr.block⟩, .inl ⟨HE.out, rfl⟩⟩
            · have d1 : decide ((20 : Int) < (n : Int)) = false := by simp; omega
              by_cases b2 : s.size - a < n
              · have d2 : decide ((s.size : Int) - (a : Int) < (n : Int)) = true := by simp; omega
                go_upto_region 5 with fail
                go_quiet ((go_at_call 119; exact Calls.quiet_of_same (HLen.out _ (by exact HI.out.bl))))
                go_wp2_with fail
                refine bodyPost_pan rfl ?_
                exact ⟨⟨HI.out.gr.os, HI.out.gr.tape, HI.out.gr.output, HI.out.gr.size, HI.out.gr.block⟩, .inl ⟨HE.out, rfl⟩⟩
              · have d2 : decide ((s.size : Int) - (a : Int) < (n : Int)) = false := by simp; omega
                have d3 : decide ((60 : Int) < (acc.length : Int) + (n : Int)) = true := by simp; omega
                go_upto_region 5 with fail
                go_quiet ((go_at_call 119; exact Calls.quiet_of_same (HLen.out _ (by exact HI.out.bl))))
                go_wp2_with fail
                refine bodyPost_pan rfl ?_
                exact ⟨⟨HI.out.gr.os, HI.out.gr.tape, HI.out.gr.output, HI.out.gr.size, HI.out.gr.block⟩, .inl ⟨HE.out, rfl⟩⟩
          · have d1 : decide ((20 : Int) < (n : Int)) = false := by simp; omega
            have d2 : decide ((s.size : Int) - (a : Int) < (n : Int)) = false := by simp; omega
            have d3 : decide ((60 : Int) < (acc.length : Int) + (n : Int)) = false := by simp; omega
            go_upto_region 5 with fail
            go_quiet ((go_at_call 119; exact Calls.quiet_of_same (HLen.out _ (by exact HI.out.bl))))
            have HI2 : Hid (NmI w R s at_ m acc n a (wr.drewN nq)) := Lib.hid ⟨HI.out.rd, HI.out.bl, ⟨HI.out.gr.os, HI.out.gr.tape, HI.out.gr.output, HI.out.gr.size, HI.out.gr.block⟩, HI.out.n255, HI.out.fuel, HI.out.le, HI.out.le2, HI.out.eq⟩
            have hfu := HI.out.fuel
            have a1' : (0 : Int) ≤ (a : Int) := by omega
            have a2' : (a : Int) ≤ (a : Int) + (n : Int) := by omega
            have a3' : (a : Int) + (n : Int) ≤ (s.size : Int) := by omega
            have a4' : IntKind.i64.wrap ((a : Int) + (n : Int)) = (a : Int) + (n : Int) := IntWalk.i64_in _ (by omega)
            have a5' : ((a : Int) + (n : Int)).toNat = a + n := by omega
            have a6' : (0 : Int) ≤ (a : Int) + (n : Int) := by omega
            have HBy : Hid ((s.extract a (a + n)).data.toList = (restOf s a).take n) := Lib.hid (extract_bytesAt s a n)
            have htl : ((restOf s a).take n).length = n := by rw [List.length_take]; omega
            obtain ⟨m2, rfl⟩ : ∃ m2, m = m2 + 1 := ⟨m - 1, by omega⟩
            obtain ⟨acc2, hacc2⟩ : ∃ acc2, acc2 = (if acc.length = 0 then [] else acc ++ [46]) := ⟨_, rfl⟩
            obtain ⟨acc3, hacc3⟩ : ∃ acc3, acc3 = acc2 ++ (restOf s a).take n := ⟨_, rfl⟩
            have HEq : Hid (rdName 62 [] (restOf s at_) = rdName (m2 + 1) acc3 (restOf s (a + n))) := Lib.hid (by rw [HI.out.eq]; unfold cont; rw [if_neg hn0, if_neg (by omega), restOf_drop, ← hacc2, ← hacc3])
            have hl3 : acc3.length = acc2.length + n := by rw [hacc3, List.length_append, htl]
            go_wp2_with fail
            refine (HLen.out _ HI2.out.bl).mono ?_
            rintro e w2 ⟨rfl, rfl⟩
            by_cases ha0 : acc.length = 0
            · have hq0 : decide ((0 : Int) < (acc.length : Int)) = false := decide_eq_false (by omega)
              rw [if_pos ha0] at hacc2
              obtain rfl := List.eq_nil_of_length_eq_zero ha0
              have hl2 : acc2.length = 0 := by rw [hacc2]; rfl
              have HBa : Hid (IsB w.heap.size w.heap.size acc2 (wr.drewN nq)) := Lib.hid (by rw [hacc2]; exact HI2.out.bl)
              have hrd2 := HI2.out.rd
              have HRd2 := Lib.hid hrd2; clear hrd2
              clear hacc2
              have c0 := (cell_of_block (k := 0) HRd2.out rfl).1; have c1 := (cell_of_block (k := 1) HRd2.out rfl).1
              go_upto_region 9 with fail
              go_region_held3 (fun w' => w'.cell? ⟨R, 0, none⟩ = some (.string s) ∧ w'.cell? ⟨R, 1, none⟩ = some (.int .i64 (a : Int))) (first | exact ⟨c0, c1⟩ | exact ⟨(hb4.cell (p := ⟨R, 0, none⟩) hRw).trans c0, (hb4.cell (p := ⟨R, 1, none⟩) hRw).trans c1⟩)
                ((go_at_call 74; refine (bwrite_any w.heap.size w.heap.size acc2 (s.extract a (a + n)) _ (by exact HBa.out) (by rw [ByteArray.size_extract]; omega)).mono ?_; rintro e w4 ⟨rfl, hbl4, hb4⟩))
              have hrd4 := (hb4.block R hRw).trans HRd2.out
              have hgr4 : w.grownBy w4 (some R) := by have h := HI2.out.gr; exact ⟨hb4.os.trans h.os, hb4.tape.trans h.tape, hb4.output.trans h.output, Nat.le_trans h.size hb4.size, fun i hi hne => (hb4.block i hi).trans (h.block i hi hne)⟩
              rw [HBy.out, ← hacc3] at hbl4
              have HRd4 := Lib.hid hrd4; have HBl4 := Lib.hid hbl4; have HGr4 := Lib.hid hgr4; clear hrd4 hbl4 hgr4 hb4 c0 c1
              have c1 := (cell_of_block (k := 1) HRd4.out rfl).1; have z1 := (cell_of_block (k := 1) HRd4.out rfl).2
              have HS5 := Lib.hid (cells_eq (b := #[.string s, .int .i64 ((a + n : Nat) : Int)]) (block_setCell (k := 1) (v := .int .i64 ((a + n : Nat) : Int)) HRd4.out) rfl)
              have HG5 := Lib.hid (only_set (p := ⟨R, 1, none⟩) (only_refl w4 R) (.inl rfl) (.int .i64 ((a + n : Nat) : Int)))
              have HW5 := Lib.hid (only_set (p := ⟨R, 1, none⟩) HGr4.out (.inl rfl) (.int .i64 ((a + n : Nat) : Int)))
              have HB5 := Lib.hid (isB_grown HBl4.out HG5.out hRw)
              have HNr := Lib.hid (number_r R s (a + n) 1 _ HS5.out (by omega) hs (by omega) (by omega))
              rw [show ((a + n : Nat) : Int) = (a : Int) + (n : Int) from by omega] at HNr HW5 HB5
              go_wp2_with fail
              refine HNr.out.mono ?_
              rintro e w6 ⟨hg6, ⟨hn6, rfl⟩ | ⟨n6, a6, hn6, hle6, hle7, rfl, -, hr6⟩⟩
              · rcases rdName_next m2 acc3 s (a + n) with ⟨-, q⟩ | ⟨x, -, q, -⟩
                · have HQ := Lib.hid q
                  unfold panE
                  go_wp2_with fail
                  refine bodyPost_pan rfl ?_
                  exact ⟨HW5.out.trans hg6, .inl ⟨HEq.out.trans HQ.out, rfl⟩⟩
                · rw [hn6] at q; cases q
              · rcases rdName_next m2 acc3 s (a + n) with ⟨q, -⟩ | ⟨x, hx255, q, q2⟩
                · rw [hn6] at q; cases q
                · rw [hn6] at q
                  simp only [Option.some.injEq, Prod.mk.injEq] at q
                  obtain ⟨rfl, hrest⟩ := q
                  have HI6 : Hid (NmI w R s at_ m2 acc3 x a6 w6) := Lib.hid ⟨hr6, isB_grown HB5.out hg6 hRw, HW5.out.trans hg6, hx255, by omega, by omega, ⟨by have := HI.out.le2.1; omega, hle7⟩, by rw [HEq.out, q2, ← hrest]⟩
                  have hps : s.size - posAt w6 R < s.size - posAt wr R := by rw [posAt_eq HI6.out.rd, posAt_eq HI.out.rd]; omega
                  have HP := Lib.hid hps; clear hps hn6 hr6 hrest q2
                  go_wp2_with fail
                  exact ⟨⟨m2, acc3, x, a6, rfl, HI6.out⟩, HP.out⟩
            · have hq0 : decide ((0 : Int) < (acc.length : Int)) = true := decide_eq_true (by omega)
              rw [if_neg ha0] at hacc2
              have hl2 : acc2.length = acc.length + 1 := by rw [hacc2]; simp
              go_wp2_with fail
              refine (byte_any w.heap.size w.heap.size acc 46 _ HI2.out.bl (by omega) HI2.out.gr.size).mono ?_
              rintro e w3 ⟨rfl, hbl3, hb3⟩
              rw [← hacc2] at hbl3
              have HBa := Lib.hid hbl3; clear hbl3 hacc2
              have HRd2 := Lib.hid ((hb3.block R hRw).trans HI2.out.rd)
              have HGr3 := Lib.hid (grown_low HI2.out.gr hb3)
              have c0 := (cell_of_block (k := 0) HRd2.out rfl).1; have c1 := (cell_of_block (k := 1) HRd2.out rfl).1
              go_upto_region 9 with fail
              go_region_held3 (fun w' => w'.cell? ⟨R, 0, none⟩ = some (.string s) ∧ w'.cell? ⟨R, 1, none⟩ = some (.int .i64 (a : Int))) (first | exact ⟨c0, c1⟩ | exact ⟨(hb4.cell (p := ⟨R, 0, none⟩) hRw).trans c0, (hb4.cell (p := ⟨R, 1, none⟩) hRw).trans c1⟩)
                ((go_at_call 74; refine (bwrite_any w.heap.size w.heap.size acc2 (s.extract a (a + n)) _ (by exact HBa.out) (by rw [ByteArray.size_extract]; omega)).mono ?_; rintro e w4 ⟨rfl, hbl4, hb4⟩))
              have hrd4 := (hb4.block R hRw).trans HRd2.out
              have hgr4 : w.grownBy w4 (some R) := by have h := HGr3.out; exact ⟨hb4.os.trans h.os, hb4.tape.trans h.tape, hb4.output.trans h.output, Nat.le_trans h.size hb4.size, fun i hi hne => (hb4.block i hi).trans (h.block i hi hne)⟩
              rw [HBy.out, ← hacc3] at hbl4
              have HRd4 := Lib.hid hrd4; have HBl4 := Lib.hid hbl4; have HGr4 := Lib.hid hgr4; clear hrd4 hbl4 hgr4 hb4 c0 c1
              have c1 := (cell_of_block (k := 1) HRd4.out rfl).1; have z1 := (cell_of_block (k := 1) HRd4.out rfl).2
              have HS5 := Lib.hid (cells_eq (b := #[.string s, .int .i64 ((a + n : Nat) : Int)]) (block_setCell (k := 1) (v := .int .i64 ((a + n : Nat) : Int)) HRd4.out) rfl)
              have HG5 := Lib.hid (only_set (p := ⟨R, 1, none⟩) (only_refl w4 R) (.inl rfl) (.int .i64 ((a + n : Nat) : Int)))
              have HW5 := Lib.hid (only_set (p := ⟨R, 1, none⟩) HGr4.out (.inl rfl) (.int .i64 ((a + n : Nat) : Int)))
              have HB5 := Lib.hid (isB_grown HBl4.out HG5.out hRw)
              have HNr := Lib.hid (number_r R s (a + n) 1 _ HS5.out (by omega) hs (by omega) (by omega))
              rw [show ((a + n : Nat) : Int) = (a : Int) + (n : Int) from by omega] at HNr HW5 HB5
              go_wp2_with fail
              refine HNr.out.mono ?_
              rintro e w6 ⟨hg6, ⟨hn6, rfl⟩ | ⟨n6, a6, hn6, hle6, hle7, rfl, -, hr6⟩⟩
              · rcases rdName_next m2 acc3 s (a + n) with ⟨-, q⟩ | ⟨x, -, q, -⟩
                · have HQ := Lib.hid q
                  unfold panE
                  go_wp2_with fail
                  refine bodyPost_pan rfl ?_
                  exact ⟨HW5.out.trans hg6, .inl ⟨HEq.out.trans HQ.out, rfl⟩⟩
                · rw [hn6] at q; cases q
              · rcases rdName_next m2 acc3 s (a + n) with ⟨q, -⟩ | ⟨x, hx255, q, q2⟩
                · rw [hn6] at q; cases q
                · rw [hn6] at q
                  simp only [Option.some.injEq, Prod.mk.injEq] at q
                  obtain ⟨rfl, hrest⟩ := q
                  have HI6 : Hid (NmI w R s at_ m2 acc3 x a6 w6) := Lib.hid ⟨hr6, isB_grown HB5.out hg6 hRw, HW5.out.trans hg6, hx255, by omega, by omega, ⟨by have := HI.out.le2.1; omega, hle7⟩, by rw [HEq.out, q2, ← hrest]⟩
                  have hps : s.size - posAt w6 R < s.size - posAt wr R := by rw [posAt_eq HI6.out.rd, posAt_eq HI.out.rd]; omega
                  have HP := Lib.hid hps; clear hps hn6 hr6 hrest q2
                  go_wp2_with fail
                  exact ⟨⟨m2, acc3, x, a6, rfl, HI6.out⟩, HP.out⟩
end Go.Proofs.YtmgjcjacoegocaaGreatDoor.Dn
