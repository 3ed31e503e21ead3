/-
  The contract of link.Encode.
-/
import Derived.Test.YtpiohahfdekmhaaDoorLkVal
import Derived.Test.YtpiohahfdekmhaaDoorLkNum
import Derived.Test.YtpiohahfdekmhaaDoorLkCrc
namespace Go.Proofs.YtpiohahfdekmhaaDoor.Lk
set_option maxRecDepth 100000
open Go.RowKit Go.Proofs.YtpiohahfdekmhaaDoor.Wire

theorem ba_left (l : List UInt8) (s : ByteArray) : (⟨l.toArray⟩ : ByteArray) ++ s = ⟨(l ++ s.data.toList).toArray⟩ := by
  conv => lhs; rw [ba_self s]
  rw [ba_append]
theorem head_pes (to fm kd n : Int) : pes [(to, 2), (fm, 2), (kd, 1), (n, 2)] = fhead to fm kd n := by
  simp [pes, fhead]
theorem sum_pes (n : Int) : pes [(n, 4)] = be 4 n := by simp [pes]
set_option maxHeartbeats 4000000 in
theorem encode_no (to fm kd : Int) (s : ByteArray) (w : World) (hs : s.size ≤ 9223372036854775807) (h : ¬ FrOk to fm kd s.size) :
    Calls Tryd.prog 8 #[.agg #[.int .i64 to, .int .i64 fm, .int .i64 kd, .string s]] w fun e w' => e = .returned (.tuple #[.string ⟨#[]⟩, .int .i64 40]) ∧ Below w.heap.size w w' := by
  have HV : Hid (∀ W, Calls Tryd.prog 16 #[.agg #[.int .i64 to, .int .i64 fm, .int .i64 kd, .string s]] W fun e w' => e = .returned (.bool false) ∧ Below W.heap.size W w') := Lib.hid fun W => (show frOkB to fm kd s.size = false from decide_eq_false h) ▸ valid_any to fm kd s W hs
  have Hm := Lib.hid (alloc_new w (.cells #[.int .i64 to, .int .i64 fm, .int .i64 kd, .string s] 33))
  have HB := below_alloc (o := .cells #[.int .i64 to, .int .i64 fm, .int .i64 kd, .string s] 33) (Below.refl w.heap.size w)
  go_enter Tryd.func8, Tryd.ntmps8
  go_wp2_with fail
  refine (HV.out _).mono ?_
  rintro e w1 ⟨rfl, hb⟩
  go_wp2_with fail
  go_ret2
  exact ⟨rfl, below_call HB hb⟩
def encL (to fm kd : Int) (s : ByteArray) : List UInt8 := fenc to fm kd s.data.toList
set_option maxHeartbeats 4000000 in
theorem encode_ok (to fm kd : Int) (s : ByteArray) (w : World) (a0 : Addr) (hg : Gl w a0) (h : FrOk to fm kd s.size) :
    Calls Tryd.prog 8 #[.agg #[.int .i64 to, .int .i64 fm, .int .i64 kd, .string s]] w fun e w' => e = .returned (.tuple #[.string ⟨(encL to fm kd s).toArray⟩, .int .i64 0]) ∧ Below w.heap.size w w' := by
  have hs : s.size ≤ 1024 := by unfold FrOk at h; omega
  have HV : Hid (∀ W, Calls Tryd.prog 16 #[.agg #[.int .i64 to, .int .i64 fm, .int .i64 kd, .string s]] W fun e w' => e = .returned (.bool true) ∧ Below W.heap.size W w') := Lib.hid fun W => (show frOkB to fm kd s.size = true from decide_eq_true h) ▸ valid_any to fm kd s W (by omega)
  have Hm := Lib.hid (alloc_new w (.cells #[.int .i64 to, .int .i64 fm, .int .i64 kd, .string s] 33))
  have HB := below_alloc (o := .cells #[.int .i64 to, .int .i64 fm, .int .i64 kd, .string s] 33) (Below.refl w.heap.size w)
  have hls : s.data.toList.length = s.size := rfl
  have HN1 : Hid (∀ W g, W.heap[g]? = some (.cells #[.int .i64 to, .int .i64 2, .int .i64 fm, .int .i64 2, .int .i64 kd, .int .i64 1, .int .i64 s.size, .int .i64 2] 3 (0, 0)) → Calls Tryd.prog 17 #[.slice (some ⟨g, 0, none⟩) 8 8] W fun e w' => e = .returned (.tuple #[.string ⟨(fhead to fm kd s.size).toArray⟩, .nilIface]) ∧ Below W.heap.size W w') := Lib.hid fun W g hg => by
    rw [← head_pes]
    refine numbers_any g 4 8 8 _ W rfl rfl (by omega) ?_ hg
    intro x hx
    simp only [List.mem_cons, List.not_mem_nil, or_false] at hx
    unfold FrOk at h
    rcases hx with rfl | rfl | rfl | rfl
    · exact ⟨by omega, by omega, by show to < 65536; omega⟩
    · exact ⟨by omega, by omega, by show fm < 65536; omega⟩
    · exact ⟨by omega, by show 0 ≤ kd; omega, by show kd < 256; omega⟩
    · exact ⟨by omega, by show (0 : Int) ≤ s.size; omega, by show (s.size : Int) < 65536; omega⟩
  have hcl := crc_lt (fbody to fm kd s.data.toList)
  have HC : Hid (∀ W, Calls Tryd.prog 19 #[.string (⟨(fhead to fm kd s.size).toArray⟩ ++ s)] W fun e w' => e = .returned (.int .i64 (crc (fbody to fm kd s.data.toList) : Int)) ∧ Below W.heap.size W w') := Lib.hid fun W => by
    rw [ba_left]
    exact crc_any ⟨(fbody to fm kd s.data.toList).toArray⟩ W (by rw [sz, fbody_length]; omega)
  have HE : Hid (((⟨(fhead to fm kd s.size).toArray⟩ : ByteArray) ++ s) ++ ⟨(be 4 (crc (fbody to fm kd s.data.toList) : Int)).toArray⟩ = ⟨(encL to fm kd s).toArray⟩) := Lib.hid (by rw [ba_left, ba_append]; rfl)
  generalize crc (fbody to fm kd s.data.toList) = cr at *
  have HN2 : Hid (∀ W g, W.heap[g]? = some (.cells #[.int .i64 (cr : Int), .int .i64 4] 3 (0, 0)) → Calls Tryd.prog 17 #[.slice (some ⟨g, 0, none⟩) 2 2] W fun e w' => e = .returned (.tuple #[.string ⟨(be 4 (cr : Int)).toArray⟩, .nilIface]) ∧ Below W.heap.size W w') := Lib.hid fun W g hg => by
    rw [← sum_pes]
    refine numbers_any g 1 2 2 _ W rfl rfl (by omega) ?_ hg
    intro x hx
    simp only [List.mem_cons, List.not_mem_nil, or_false] at hx
    subst hx
    exact ⟨by omega, by show (0 : Int) ≤ cr; omega, by show (cr : Int) < 4294967296; omega⟩
  have hhl := fhead_length to fm kd s.size
  have hbl := be_length 4 (cr : Int)
  have HIS := Lib.hid fun W => is_nil a0 W
  generalize fhead to fm kd s.size = hd at *
  generalize be 4 (cr : Int) = tl at *
  have z0 : ¬ 9223372036854775807 < hd.length + s.size := by omega
  have z1 : ¬ 9223372036854775807 < hd.length + s.size + tl.length := by omega
  have HL := Lib.hid (hg.below HB)
  clear hg h hls
  go_enter Tryd.func8, Tryd.ntmps8
  go_wp2_with fail
  refine (HV.out _).mono ?_
  rintro e w1 ⟨rfl, hb⟩
  have HL' := Lib.hid (HL.out.below hb); clear HL; have HL := HL'; clear HL'
  have Hm' := Lib.hid (bblock hb Hm.out); clear Hm; have Hm := Hm'; clear Hm'
  have HB' := below_call HB hb; clear HB hb; have HB := HB'; clear HB'; have hz := HB.size
  have qm0 := (cell_of_block (k := 0) Hm.out rfl).1; have zm0 := (cell_of_block (k := 0) Hm.out rfl).2; have qm1 := (cell_of_block (k := 1) Hm.out rfl).1; have zm1 := (cell_of_block (k := 1) Hm.out rfl).2; have qm2 := (cell_of_block (k := 2) Hm.out rfl).1; have zm2 := (cell_of_block (k := 2) Hm.out rfl).2; have qm3 := (cell_of_block (k := 3) Hm.out rfl).1; have zm3 := (cell_of_block (k := 3) Hm.out rfl).2; have lt_m := blk_lt Hm.out
  go_wp2_with fail
  refine (HN1.out _ _ (by exact alloc_new _ _)).mono ?_
  rintro e w2 ⟨rfl, hb⟩
  have hb' := below_call (below_alloc (Below.refl w1.heap.size w1)) hb; clear hb; have hb := hb'; clear hb'
  have HL' := Lib.hid (HL.out.below hb); clear HL; have HL := HL'; clear HL'
  clear qm0 zm0 qm1 zm1 qm2 zm2 qm3 zm3 lt_m
  have Hm' := Lib.hid (bblock hb Hm.out); clear Hm; have Hm := Hm'; clear Hm'
  have HB' := below_call HB hb; clear HB hb; have HB := HB'; clear HB'; have hz := HB.size
  have gl : w2.cell? ⟨0, 0, none⟩ = some (errV a0) := HL.out
  go_wp2_with fail
  refine (HIS.out _).mono ?_
  rintro e w3 ⟨rfl, rfl⟩
  have qm3 := (cell_of_block (k := 3) Hm.out rfl).1; have zm3 := (cell_of_block (k := 3) Hm.out rfl).2; have lt_m := blk_lt Hm.out
  go_wp2_with fail
  refine (HC.out _).mono ?_
  rintro e w3 ⟨rfl, hb⟩
  have HL' := Lib.hid (HL.out.below hb); clear HL; have HL := HL'; clear HL'
  clear qm3 zm3 lt_m
  clear gl
  have Hm' := Lib.hid (bblock hb Hm.out); clear Hm; have Hm := Hm'; clear Hm'
  have HB' := below_call HB hb; clear HB hb; have HB := HB'; clear HB'; have hz := HB.size
  go_wp2_with fail
  refine (HN2.out _ _ (by exact alloc_new _ _)).mono ?_
  rintro e w4 ⟨rfl, hb⟩
  have hb' := below_call (below_alloc (Below.refl w3.heap.size w3)) hb; clear hb; have hb := hb'; clear hb'
  have HL' := Lib.hid (HL.out.below hb); clear HL; have HL := HL'; clear HL'
  have HB' := below_call HB hb; clear HB hb; have HB := HB'; clear HB'; have hz := HB.size
  have gl : w4.cell? ⟨0, 0, none⟩ = some (errV a0) := HL.out
  go_wp2_with fail
  refine (HIS.out _).mono ?_
  rintro e w5 ⟨rfl, rfl⟩
  go_wp2_with fail
  go_ret2
  exact ⟨by rw [← HE.out]; rfl, HB⟩
end Go.Proofs.YtpiohahfdekmhaaDoor.Lk
