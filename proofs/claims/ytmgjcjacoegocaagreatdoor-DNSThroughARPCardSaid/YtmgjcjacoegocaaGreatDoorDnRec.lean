/-
  Records and messages in memory; the contracts of validRecord and Valid.
-/
import Derived.Test.YtmgjcjacoegocaaGreatDoorDnVal
import Derived.Test.YtmgjcjacoegocaaGreatDoorSRows
namespace Go.Proofs.YtmgjcjacoegocaaGreatDoor.Dn
set_option maxRecDepth 100000
open Go.RowKit Go.Proofs.YtmgjcjacoegocaaGreatDoor.Wire Go.Proofs.YtmgjcjacoegocaaGreatDoor.Rw

/-- a string's bytes as a value -/
def rcells (r : Rec) : List Value := [.string ⟨r.nm.toArray⟩, .int .i64 r.kd, .int .i64 r.ttl, .int .i64 r.addr, .string ⟨r.dst.toArray⟩]
theorem rcells_len (r : Rec) : (rcells r).length = 5 := rfl
theorem addr_any (a : Int) (w : World) : Calls Tryz.prog 86 #[.int .i64 a] w fun e w' => e = .returned (.bool (decide (0 ≤ a ∧ a ≤ 4294967295))) ∧ w = w' := by
  go_enter Tryz.func86, Tryz.ntmps86
  go_wp2
  all_goals
    go_ret
    refine ⟨ret_bool ?_, rfl⟩
  all_goals
    first
      | (refine (decide_eq_false (fun h => ?_)).symm; omega)
      | (exact decide_eq_decide.2 (by omega))
      | (rw [Bool.eq_iff_iff]; simp; omega)
      | (simp; omega)
set_option maxHeartbeats 4000000 in
theorem vrec_any (r : Rec) (w : World) (hn : r.nm.length ≤ 9223372036854775807) (hd : r.dst.length ≤ 9223372036854775807) :
    Calls Tryz.prog 79 #[.agg (rcells r).toArray] w fun e w' => e = .returned (.bool (recB r)) ∧ Below w.heap.size w w' := by
  obtain ⟨nm, kd, ttl, addr, dst⟩ := r
  dsimp only at hn hd
  have HN := Lib.hid fun W => vname_any ⟨nm.toArray⟩ W hn
  have HD := Lib.hid fun W => vname_any ⟨dst.toArray⟩ W hd
  have HA := Lib.hid fun W => addr_any addr W
  have HR : Hid (recB ⟨nm, kd, ttl, addr, dst⟩ = (nameB nm && decide (0 ≤ ttl) && decide (ttl ≤ 1000) && ((decide (kd = 1) && decide (0 ≤ addr ∧ addr ≤ 4294967295) && decide (dst = [])) || (decide (kd = 2) && nameB dst && decide (addr = 0))))) := Lib.hid (by
    unfold recB
    rw [Bool.eq_iff_iff]; simp only [Bool.and_eq_true, Bool.or_eq_true, decide_eq_true_eq, and_assoc])
  have Hm := Lib.hid (alloc_new w (.cells #[.string ⟨nm.toArray⟩, .int .i64 kd, .int .i64 ttl, .int .i64 addr, .string ⟨dst.toArray⟩] 92))
  have HB := below_alloc (o := .cells #[.string ⟨nm.toArray⟩, .int .i64 kd, .int .i64 ttl, .int .i64 addr, .string ⟨dst.toArray⟩] 92) (Below.refl w.heap.size w)
  unfold rcells
  rw [HR.out]
  clear HR
  go_enter Tryz.func79, Tryz.ntmps79
  go_wp2_with fail
  refine (HN.out _).mono ?_
  rintro e w1 ⟨rfl, hb⟩
  have Hm' := Lib.hid (bblock hb Hm.out); clear Hm; have Hm := Hm'; clear Hm'
  have HB' := below_call HB hb; clear HB hb; have HB := HB'; clear HB'; have hz := HB.size
  have qm0 := (cell_of_block (k := 0) Hm.out rfl).1; have zm0 := (cell_of_block (k := 0) Hm.out rfl).2; have qm1 := (cell_of_block (k := 1) Hm.out rfl).1; have zm1 := (cell_of_block (k := 1) Hm.out rfl).2; have qm2 := (cell_of_block (k := 2) Hm.out rfl).1; have zm2 := (cell_of_block (k := 2) Hm.out rfl).2; have qm3 := (cell_of_block (k := 3) Hm.out rfl).1; have zm3 := (cell_of_block (k := 3) Hm.out rfl).2; have qm4 := (cell_of_block (k := 4) Hm.out rfl).1; have zm4 := (cell_of_block (k := 4) Hm.out rfl).2; have lt_m := blk_lt Hm.out
  rw [show nameB (⟨nm.toArray⟩ : ByteArray).data.toList = nameB nm from rfl]
  cases hnb : nameB nm with
  | false =>
    go_wp2_with fail
    go_ret
    exact ⟨ret_bool (by simp [hnb]), HB⟩
  | true =>
    by_cases h0 : 0 ≤ ttl
    · by_cases h1 : ttl ≤ 1000
      · have t0 : ¬ ttl < 0 := by omega
        have t1 : ¬ 1000 < ttl := by omega
        by_cases k1 : kd = 1
        · subst k1
          go_wp2_with fail
          refine (HA.out _).mono ?_
          rintro e w2 ⟨rfl, rfl⟩
          by_cases ha : 0 ≤ addr ∧ addr ≤ 4294967295
          · rw [decide_eq_true ha]
            go_wp2_with fail
            go_ret
            exact ⟨ret_bool (by rw [Bool.eq_iff_iff]; simp), HB⟩
          · rw [decide_eq_false ha]
            go_wp2_with fail
            go_ret
            exact ⟨ret_bool (by simp), HB⟩
        · by_cases k2 : kd = 2
          · subst k2
            go_wp2_with fail
            refine (HD.out _).mono ?_
            rintro e w2 ⟨rfl, hb⟩
            rw [show nameB (⟨dst.toArray⟩ : ByteArray).data.toList = nameB dst from rfl]
            clear qm0 zm0 qm1 zm1 qm2 zm2 qm3 zm3 qm4 zm4 lt_m
            have Hm' := Lib.hid (bblock hb Hm.out); clear Hm; have Hm := Hm'; clear Hm'
            have HB' := below_call HB hb; clear HB hb; have HB := HB'; clear HB'; have hz := HB.size
            have q3 := (cell_of_block (k := 3) Hm.out rfl).1
            cases hdb : nameB dst with
            | false =>
              go_wp2_with fail
              go_ret
              exact ⟨ret_bool (by simp), HB⟩
            | true =>
              go_wp2_with fail
              go_ret
              exact ⟨ret_bool (by rw [Bool.eq_iff_iff]; simp), HB⟩
          · have e1 : (kd == 1) = false := by simp [k1]
            have e2 : (kd == 2) = false := by simp [k2]
            go_wp2_with fail
            go_ret
            exact ⟨ret_bool (by simp [k1, k2]), HB⟩
      · have t1 : 1000 < ttl := by omega
        go_wp2_with fail
        go_ret
        exact ⟨ret_bool (by simp [hnb, h0, show ¬ ttl ≤ 1000 by omega]), HB⟩
    · have t0 : ttl < 0 := by omega
      go_wp2_with fail
      go_ret
      exact ⟨ret_bool (by simp [hnb, show ¬ 0 ≤ ttl by omega]), HB⟩
end Go.Proofs.YtmgjcjacoegocaaGreatDoor.Dn
