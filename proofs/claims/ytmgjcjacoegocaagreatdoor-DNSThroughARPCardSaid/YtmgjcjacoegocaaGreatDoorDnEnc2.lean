/-
  The contract of dns.Encode at valid messages.
-/
import Derived.Test.YtmgjcjacoegocaaGreatDoorDnEnc
import Derived.Deep.DeepCutAuto
import Derived.Outline
namespace Go.Proofs.YtmgjcjacoegocaaGreatDoor.Dn
set_option maxRecDepth 100000
open Go.RowKit Go.Proofs.YtmgjcjacoegocaaGreatDoor.Wire Go.Proofs.YtmgjcjacoegocaaGreatDoor.Rw

set_option maxHeartbeats 8000000 in
theorem encode_ok (d : Msg) (A : Option Addr) (c lo : Nat) (w : World) (hf : d.fits) (hr : RRow w lo A c d.recs) (h : msgB d = true) :
    Calls Tryz.prog 7 #[.agg (mcells d A c).toArray] w fun e w' => e = .returned (.tuple #[.string ⟨(enc d).toArray⟩, .int .i64 0]) ∧ Below w.heap.size w w' := by
  have hb0 := (Below.refl w.heap.size w).alloc (Nat.le_refl _) (.cells (mcells d A c).toArray 39)
  have HV := Lib.hid (h ▸ valid_any d A c lo _ hf (hr.below hb0))
  have HS := Lib.hid (enc_shape d)
  have HL := enc_len d h
  obtain ⟨hg1, hg2, hg3, hg4, hg5, hg6⟩ := (msgB_iff d).1 h
  obtain ⟨id, ans, code, nm, kd, recs⟩ := d
  unfold mcells at *
  dsimp only at *
  have hn60 := name_len hg2
  have hel := encName_len nm
  have hl1 := be_length 2 id; have hl2 := be_length 1 (ansN ans); have hl3 := be_length 1 code; have hl4 := be_length 1 kd; have hl5 := be_length 1 (recs.length : Int)
  have HRL := recs_len recs hg5
  have HALL := Lib.hid (List.all_eq_true.1 hg5)
  have HTk := Lib.hid fun i => flat_take_le recs i
  have HR := Lib.hid hr
  have Hm := Lib.hid (alloc_new w (.cells #[.int .i64 id, .bool ans, .int .i64 code, .string ⟨nm.toArray⟩, .int .i64 kd, .slice A recs.length c] 39))
  have hai : 0 ≤ ansN ans ∧ ansN ans ≤ 1 := by unfold ansN; cases ans <;> simp
  clear hf hr h hg5 hg6
  go_enter Tryz.func7, Tryz.ntmps7
  go_wp2_with fail
  refine HV.out.mono ?_
  rintro e w1 ⟨rfl, hb⟩
  have HB1 := below_call hb0 hb
  have Hm1 := Lib.hid (bblock hb Hm.out); clear Hm hb hb0 HV
  have hlm := blk_lt Hm1.out
  obtain ⟨⟨m0, m1, m2, m3, m4, m5⟩, -⟩ := cells6 Hm1.out
  go_upto_if 12 with fail
  go_cut [4] (fun s4 wx => s4 = .int .i64 (ansN ans) ∧ w1 = wx)
  case first => (cases ans <;> (go_wp2_with fail; go_meet; exact ⟨rfl, rfl⟩))
  case rest =>
    clear m0 m1 m2 m3 m4 m5
    obtain ⟨rfl, rfl⟩ := hcut
    have HI := Lib.hid (IsW.new w1)
    have HX := Below.refl w1.heap.size (w1.alloc (.cells #[.pointer none, .slice none 0 0, .bool false] 109))
    have HBb := Lib.hid (below_call HB1 ((Below.refl w1.heap.size w1).alloc (Nat.le_refl _) (.cells #[.pointer none, .slice none 0 0, .bool false] 109)))
    have HmB := Lib.hid (block_alloc Hm1.out (.cells #[.pointer none, .slice none 0 0, .bool false] 109))
    have hzb : w1.heap.size ≤ (w1.alloc (.cells #[.pointer none, .slice none 0 0, .bool false] 109)).heap.size := by simp
    clear HB1 Hm1
    skip
    generalize hWb : (w1.alloc (.cells #[.pointer none, .slice none 0 0, .bool false] 109)) = Wb at *
    have Hmk := (HX.block w.heap.size hlm).trans HmB.out
    obtain ⟨⟨m0, m1, m2, m3, m4, m5⟩, -⟩ := cells6 Hmk
    have hsz := HX.size
    go_wp2_with fail
    clear m0 m1 m2 m3 m4 m5 Hmk
    have HIx : Hid (IsW w1.heap.size w1.heap.size (([] : List UInt8)) false Wb) := HI; clear HI; have HI := HIx; clear HIx
    have hacc : (([] : List UInt8)).length ≤ 1200 := by simp
    refine (number_w w1.heap.size w1.heap.size _ false id 2 Wb HI.out (by omega) (by omega) (by omega) (by simp; omega) (by omega) (by omega)).mono ?_
    rintro e v1 ⟨rfl, HJ, hbb, -⟩
    clear HI hacc hsz; have HI := Lib.hid HJ; clear HJ
    have HX' := HX.trans hbb; clear HX hbb; have HX := HX'; clear HX'
    have Hmk := (HX.block w.heap.size hlm).trans HmB.out
    obtain ⟨⟨m0, m1, m2, m3, m4, m5⟩, -⟩ := cells6 Hmk
    have hsz := HX.size
    go_wp2_with fail
    clear m0 m1 m2 m3 m4 m5 Hmk
    have HIx : Hid (IsW w1.heap.size w1.heap.size (([] : List UInt8) ++ be 2 id) false v1) := HI; clear HI; have HI := HIx; clear HIx
    have hacc : (([] : List UInt8) ++ be 2 id).length ≤ 1200 := by simp only [List.length_append, List.length_nil]; omega
    refine (number_w w1.heap.size w1.heap.size _ false (ansN ans) 1 v1 HI.out (by omega) (by omega) (by omega) (by simp; omega) (by omega) (by omega)).mono ?_
    rintro e v2 ⟨rfl, HJ, hbb, -⟩
    clear HI hacc hsz; have HI := Lib.hid HJ; clear HJ
    have HX' := HX.trans hbb; clear HX hbb; have HX := HX'; clear HX'
    have Hmk := (HX.block w.heap.size hlm).trans HmB.out
    obtain ⟨⟨m0, m1, m2, m3, m4, m5⟩, -⟩ := cells6 Hmk
    have hsz := HX.size
    go_wp2_with fail
    clear m0 m1 m2 m3 m4 m5 Hmk
    have HIx : Hid (IsW w1.heap.size w1.heap.size (([] : List UInt8) ++ be 2 id ++ be 1 (ansN ans)) false v2) := HI; clear HI; have HI := HIx; clear HIx
    have hacc : (([] : List UInt8) ++ be 2 id ++ be 1 (ansN ans)).length ≤ 1200 := by simp only [List.length_append, List.length_nil]; omega
    refine (number_w w1.heap.size w1.heap.size _ false code 1 v2 HI.out (by omega) (by omega) (by omega) (by simp; omega) (by omega) (by omega)).mono ?_
    rintro e v3 ⟨rfl, HJ, hbb, -⟩
    clear HI hacc hsz; have HI := Lib.hid HJ; clear HJ
    have HX' := HX.trans hbb; clear HX hbb; have HX := HX'; clear HX'
    have Hmk := (HX.block w.heap.size hlm).trans HmB.out
    obtain ⟨⟨m0, m1, m2, m3, m4, m5⟩, -⟩ := cells6 Hmk
    have hsz := HX.size
    go_wp2_with fail
    clear m0 m1 m2 m3 m4 m5 Hmk
    have HIx : Hid (IsW w1.heap.size w1.heap.size (([] : List UInt8) ++ be 2 id ++ be 1 (ansN ans) ++ be 1 code) false v3) := HI; clear HI; have HI := HIx; clear HIx
    have hacc : (([] : List UInt8) ++ be 2 id ++ be 1 (ansN ans) ++ be 1 code).length ≤ 1200 := by simp only [List.length_append, List.length_nil]; omega
    refine (number_w w1.heap.size w1.heap.size _ false kd 1 v3 HI.out (by omega) (by omega) (by omega) (by simp; omega) (by omega) (by omega)).mono ?_
    rintro e v4 ⟨rfl, HJ, hbb, -⟩
    clear HI hacc hsz; have HI := Lib.hid HJ; clear HJ
    have HX' := HX.trans hbb; clear HX hbb; have HX := HX'; clear HX'
    have Hmk := (HX.block w.heap.size hlm).trans HmB.out
    obtain ⟨⟨m0, m1, m2, m3, m4, m5⟩, -⟩ := cells6 Hmk
    have hsz := HX.size
    go_wp2_with fail
    clear m0 m1 m2 m3 m4 m5 Hmk
    have HIx : Hid (IsW w1.heap.size w1.heap.size (([] : List UInt8) ++ be 2 id ++ be 1 (ansN ans) ++ be 1 code ++ be 1 kd) false v4) := HI; clear HI; have HI := HIx; clear HIx
    have hacc : (([] : List UInt8) ++ be 2 id ++ be 1 (ansN ans) ++ be 1 code ++ be 1 kd).length ≤ 1200 := by simp only [List.length_append, List.length_nil]; omega
    refine (name_w w1.heap.size w1.heap.size _ false nm v4 HI.out hg2 (by omega) (by omega)).mono ?_
    rintro e v5 ⟨rfl, HJ, hbb, -⟩
    clear HI hacc hsz; have HI := Lib.hid HJ; clear HJ
    have HX' := HX.trans hbb; clear HX hbb; have HX := HX'; clear HX'
    have Hmk := (HX.block w.heap.size hlm).trans HmB.out
    obtain ⟨⟨m0, m1, m2, m3, m4, m5⟩, -⟩ := cells6 Hmk
    have hsz := HX.size
    go_wp2_with fail
    clear m0 m1 m2 m3 m4 m5 Hmk
    have HIx : Hid (IsW w1.heap.size w1.heap.size (([] : List UInt8) ++ be 2 id ++ be 1 (ansN ans) ++ be 1 code ++ be 1 kd ++ encName nm) false v5) := HI; clear HI; have HI := HIx; clear HIx
    have hacc : (([] : List UInt8) ++ be 2 id ++ be 1 (ansN ans) ++ be 1 code ++ be 1 kd ++ encName nm).length ≤ 1200 := by simp only [List.length_append, List.length_nil]; omega
    refine (number_w w1.heap.size w1.heap.size _ false (recs.length : Int) 1 v5 HI.out (by omega) (by omega) (by omega) (by simp; omega) (by omega) (by omega)).mono ?_
    rintro e v6 ⟨rfl, HJ, hbb, -⟩
    clear HI hacc hsz; have HI := Lib.hid HJ; clear HJ
    have HX' := HX.trans hbb; clear HX hbb; have HX := HX'; clear HX'
    have hacc : (([] : List UInt8) ++ be 2 id ++ be 1 (ansN ans) ++ be 1 code ++ be 1 kd ++ encName nm ++ be 1 (recs.length : Int)).length ≤ 1200 := by simp only [List.length_append, List.length_nil]; omega
    have HSh : Hid (enc ⟨id, ans, code, nm, kd, recs⟩ = ([] : List UInt8) ++ be 2 id ++ be 1 (ansN ans) ++ be 1 code ++ be 1 kd ++ encName nm ++ be 1 (recs.length : Int) ++ recs.flatMap encRec) := Lib.hid (by rw [HS.out, List.nil_append])
    have HIx : Hid (IsW w1.heap.size w1.heap.size (([] : List UInt8) ++ be 2 id ++ be 1 (ansN ans) ++ be 1 code ++ be 1 kd ++ encName nm ++ be 1 (recs.length : Int)) false v6) := HI; clear HI; have HI := HIx; clear HIx
    clear HS
    generalize ([] : List UInt8) ++ be 2 id ++ be 1 (ansN ans) ++ be 1 code ++ be 1 kd ++ encName nm ++ be 1 (recs.length : Int) = pre at *
    have Hmk := (HX.block w.heap.size hlm).trans HmB.out
    obtain ⟨⟨m0, m1, m2, m3, m4, m5⟩, -⟩ := cells6 Hmk
    have hsz := HX.size
    go_wp2_with fail
    clear m0 m1 m2 m3 m4 m5 Hmk hsz
    go_loopw [34] (fun u wr => ∃ k : Nat, k ≤ recs.length ∧ u = .int .i64 (k : Int) ∧ IsW w1.heap.size w1.heap.size (pre ++ (recs.take k).flatMap encRec) false wr ∧ Below w1.heap.size Wb wr) (fun u _ => recs.length - (Go.RowKit.intOf u).toNat)
    case atStart => exact ⟨0, by omega, rfl, by simpa using HI.out, HX⟩
    case round =>
      clear HI HX
      obtain ⟨k, hk, rfl, hI, hX⟩ := hrel
      have HI := Lib.hid hI; clear hI
      have hsz := hX.size
      have HBw := HBb.out.trans (hX.mono (by omega))
      have htk := HTk.out k
      by_cases hlt : k < recs.length
      · have hkl : decide ((k : Int) < (recs.length : Int)) = true := by simp; omega
        have hk1 : (k : Int) < (recs.length : Int) := by omega
        have hk0 : (0 : Int) ≤ (k : Int) := by omega
        obtain ⟨g, hA, hlo, d0, d1, d2, d3, d4⟩ := (HR.out.below HBw).at hlt
        subst hA
        have HTs : Hid ((recs.take (k + 1)).flatMap encRec = (recs.take k).flatMap encRec ++ encRec recs[k]) := Lib.hid (by rw [List.take_add_one, List.getElem?_eq_getElem hlt, List.flatMap_append]; simp)
        have HRk := Lib.hid (HALL.out recs[k] (List.getElem_mem hlt))
        have hEk := rec_eta recs[k]
        have HEk := Lib.hid hEk; clear hEk
        generalize (recs.take k).flatMap encRec = mid at *
        generalize recs[k] = r at *
        have HIa := Lib.hid (HI.out.below ((Below.refl wr.heap.size wr).alloc (Nat.le_refl _) (.cells (rcells r).toArray 92)))
        have HRc : Hid (Calls Tryz.prog 38 #[.pointer (some ⟨w1.heap.size, 0, none⟩), .agg (rcells r).toArray] (wr.alloc (.cells (rcells r).toArray 92)) fun e w' => e = .returned (.tuple #[]) ∧ IsW w1.heap.size w1.heap.size (pre ++ mid ++ encRec r) false w' ∧ Below w1.heap.size (wr.alloc (.cells (rcells r).toArray 92)) w' ∧ KW w1.heap.size (wr.alloc (.cells (rcells r).toArray 92)) w') := Lib.hid (record_w w1.heap.size w1.heap.size (pre ++ mid) false r _ HIa.out HRk.out (by rw [List.length_append]; omega) (by simp; omega))
        rw [← HEk.out] at HRc
        go_wp2_with fail
        clear d0 d1 d2 d3 d4
        refine HRc.out.mono ?_
        rintro e w3 ⟨rfl, hI3, hb3, -⟩
        have HI3 := Lib.hid hI3; clear hI3
        go_wp2_with fail
        exact ⟨⟨k + 1, by omega, by go_num, by rw [HTs.out, ← List.append_assoc]; exact HI3.out, hX.trans ((((Below.refl wr.heap.size wr).alloc (Nat.le_refl _) _).mono (by omega)).trans hb3)⟩, by simp [Go.RowKit.intOf]; omega⟩
      · have hkn : k = recs.length := by omega
        have hkl : decide ((k : Int) < (recs.length : Int)) = false := by simp; omega
        have HIe : Hid (IsW w1.heap.size w1.heap.size (enc ⟨id, ans, code, nm, kd, recs⟩) false wr) := Lib.hid (by rw [HSh.out]; have := HI.out; rw [hkn, List.take_length] at this; exact this)
        obtain ⟨pp, vv, -, hbk, -⟩ := HIe.out.ex
        have q2 := (cell_of_block (k := 2) hbk rfl).1
        clear hbk HI
        go_wp2_with fail
        refine (string_w _ _ _ false wr HIe.out (by intro e; rw [e] at HL; simp at HL)).mono ?_
        rintro e w3 ⟨rfl, hb3⟩
        go_wp2_with fail
        go_ret2
        exact ⟨rfl, HBw.trans (hb3.mono (by omega))⟩
end Go.Proofs.YtmgjcjacoegocaaGreatDoor.Dn
