/-
  The reference's Fragment at every datagram and size.
-/
import Derived.Test.YtabfihknhbfjeaaFrag3
import Derived.Test.YtabfihknhbfjeaaRef06b
import Derived.Laws.OwnMore
namespace Go.Proofs.Ytabfihknhbfjeaa.Ip
open Go.RowKit Go.Proofs.Ytabfihknhbfjeaa.Wire

set_option maxRecDepth 100000 in
set_option maxHeartbeats 1000000 in
theorem rfragment_inv (f t pr ttl id : Int) (df mf : Bool) (off : Int) (s : ByteArray) (size : Int) (w : World) (hs : s.size ≤ 1000000) (_ : size ≤ 9223372036854775807) (hv : ¬ VLen f t pr ttl id df mf off s.size) :
    Calls Try.prog 17 #[.agg #[.int .i64 f, .int .i64 t, .int .i64 pr, .int .i64 ttl, .int .i64 id, .bool df, .bool mf, .int .i64 off, .string s], .int .i64 size] w fun e w' => ∃ v, e = .returned (.tuple #[v, .int .i64 60]) ∧ w'.ownsRow w.heap.size 26 9 v 0 ([]) ∧ Below w.heap.size w w' := by
  have HV := Lib.hid fun w => rvalid_any f t pr ttl id df mf off s w hs
  rw [show vlenB f t pr ttl id df mf off s.size = false from decide_eq_false hv] at HV
  clear hv
  go_enter Try.func17, Try.ntmps17
  have Hp := Lib.hid (alloc_new w (.cells #[.int .i64 f, .int .i64 t, .int .i64 pr, .int .i64 ttl, .int .i64 id, .bool df, .bool mf, .int .i64 off, .string s] 26))
  have HB := below_alloc (o := .cells #[.int .i64 f, .int .i64 t, .int .i64 pr, .int .i64 ttl, .int .i64 id, .bool df, .bool mf, .int .i64 off, .string s] 26) (Below.refl w.heap.size w)
  go_wp2_with fail
  refine (HV.out _).mono ?_
  rintro e w1 ⟨rfl, hb⟩
  have Hp' := Lib.hid (bblock hb Hp.out); clear Hp; have Hp := Hp'; clear Hp'
  have HB' := below_call HB hb; clear HB hb; have HB := HB'; clear HB'; have hz1' := HB.size
  obtain ⟨⟨q0, q1, q2, q3, q4, q5, q6, q7, q8⟩, z0, z1, z2, z3, z4, z5, z6, z7, z8⟩ := cells9 Hp.out
  have lt_p := blk_lt Hp.out
  go_wp2_with fail
  go_ret2
  exact ⟨_, rfl, World.ownsRow_nil _ _ _ _, HB⟩

set_option maxRecDepth 100000 in
set_option maxHeartbeats 1000000 in
theorem rfragment_arg (f t pr ttl id : Int) (df mf : Bool) (off : Int) (s : ByteArray) (size : Int) (w : World) (hs : s.size ≤ 1000000) (_ : size ≤ 9223372036854775807) (hv : VLen f t pr ttl id df mf off s.size) (h68 : size < 68) :
    Calls Try.prog 17 #[.agg #[.int .i64 f, .int .i64 t, .int .i64 pr, .int .i64 ttl, .int .i64 id, .bool df, .bool mf, .int .i64 off, .string s], .int .i64 size] w fun e w' => ∃ v, e = .returned (.tuple #[v, .int .i64 2]) ∧ w'.ownsRow w.heap.size 26 9 v 0 ([]) ∧ Below w.heap.size w w' := by
  have HV := Lib.hid fun w => rvalid_any f t pr ttl id df mf off s w hs
  rw [show vlenB f t pr ttl id df mf off s.size = true from decide_eq_true hv] at HV
  clear hv
  have hd1 : decide (size < 68) = true := by simp; omega
  go_enter Try.func17, Try.ntmps17
  have Hp := Lib.hid (alloc_new w (.cells #[.int .i64 f, .int .i64 t, .int .i64 pr, .int .i64 ttl, .int .i64 id, .bool df, .bool mf, .int .i64 off, .string s] 26))
  have HB := below_alloc (o := .cells #[.int .i64 f, .int .i64 t, .int .i64 pr, .int .i64 ttl, .int .i64 id, .bool df, .bool mf, .int .i64 off, .string s] 26) (Below.refl w.heap.size w)
  go_wp2_with fail
  refine (HV.out _).mono ?_
  rintro e w1 ⟨rfl, hb⟩
  have Hp' := Lib.hid (bblock hb Hp.out); clear Hp; have Hp := Hp'; clear Hp'
  have HB' := below_call HB hb; clear HB hb; have HB := HB'; clear HB'; have hz1' := HB.size
  obtain ⟨⟨q0, q1, q2, q3, q4, q5, q6, q7, q8⟩, z0, z1, z2, z3, z4, z5, z6, z7, z8⟩ := cells9 Hp.out
  have lt_p := blk_lt Hp.out
  go_wp2_with fail
  go_ret2
  exact ⟨_, rfl, World.ownsRow_nil _ _ _ _, HB⟩

set_option maxRecDepth 100000 in
set_option maxHeartbeats 1000000 in
theorem rfragment_one (f t pr ttl id : Int) (df mf : Bool) (off : Int) (s : ByteArray) (size : Int) (w : World) (hs : s.size ≤ 1000000) (hsz : size ≤ 9223372036854775807) (hv : VLen f t pr ttl id df mf off s.size) (h68 : 68 ≤ size) (hbig : 20 + (s.size : Int) ≤ size) :
    Calls Try.prog 17 #[.agg #[.int .i64 f, .int .i64 t, .int .i64 pr, .int .i64 ttl, .int .i64 id, .bool df, .bool mf, .int .i64 off, .string s], .int .i64 size] w fun e w' => ∃ v, e = .returned (.tuple #[v, .int .i64 0]) ∧ w'.ownsRow w.heap.size 26 9 v 1 (Pk.cells ⟨f, t, pr, ttl, id, df, mf, off, s⟩) ∧ Below w.heap.size w w' := by
  have HV := Lib.hid fun w => rvalid_any f t pr ttl id df mf off s w hs
  rw [show vlenB f t pr ttl id df mf off s.size = true from decide_eq_true hv] at HV
  clear hv
  have hd1 : decide (size < 68) = false := by simp; omega
  have hd2 : decide ((s.size : Int) ≤ size - 20) = true := by simp; omega
  go_enter Try.func17, Try.ntmps17
  have Hp := Lib.hid (alloc_new w (.cells #[.int .i64 f, .int .i64 t, .int .i64 pr, .int .i64 ttl, .int .i64 id, .bool df, .bool mf, .int .i64 off, .string s] 26))
  have HB := below_alloc (o := .cells #[.int .i64 f, .int .i64 t, .int .i64 pr, .int .i64 ttl, .int .i64 id, .bool df, .bool mf, .int .i64 off, .string s] 26) (Below.refl w.heap.size w)
  go_wp2_with fail
  refine (HV.out _).mono ?_
  rintro e w1 ⟨rfl, hb⟩
  have Hp' := Lib.hid (bblock hb Hp.out); clear Hp; have Hp := Hp'; clear Hp'
  have HB' := below_call HB hb; clear HB hb; have HB := HB'; clear HB'; have hz1' := HB.size
  obtain ⟨⟨q0, q1, q2, q3, q4, q5, q6, q7, q8⟩, z0, z1, z2, z3, z4, z5, z6, z7, z8⟩ := cells9 Hp.out
  have lt_p := blk_lt Hp.out
  go_wp2_with fail
  go_ret2
  exact ⟨_, rfl, World.ownsRow_lit w1 #[.int .i64 f, .int .i64 t, .int .i64 pr, .int .i64 ttl, .int .i64 id, .bool df, .bool mf, .int .i64 off, .string s] 1 (by omega) (by unfold maxLen; omega) rfl, below_alloc HB⟩

set_option maxRecDepth 100000 in
set_option maxHeartbeats 1000000 in
theorem rfragment_df (f t pr ttl id : Int) (df mf : Bool) (off : Int) (s : ByteArray) (size : Int) (w : World) (hs : s.size ≤ 1000000) (hsz : size ≤ 9223372036854775807) (hv : VLen f t pr ttl id df mf off s.size) (h68 : 68 ≤ size) (hbig : size < 20 + (s.size : Int)) (hdf : Hid (df = true)) :
    Calls Try.prog 17 #[.agg #[.int .i64 f, .int .i64 t, .int .i64 pr, .int .i64 ttl, .int .i64 id, .bool df, .bool mf, .int .i64 off, .string s], .int .i64 size] w fun e w' => ∃ v, e = .returned (.tuple #[v, .int .i64 61]) ∧ w'.ownsRow w.heap.size 26 9 v 0 ([]) ∧ Below w.heap.size w w' := by
  have HV := Lib.hid fun w => rvalid_any f t pr ttl id df mf off s w hs
  rw [show vlenB f t pr ttl id df mf off s.size = true from decide_eq_true hv] at HV
  clear hv
  have hdf2 := hdf.out; subst hdf2; clear hdf
  have hd1 : decide (size < 68) = false := by simp; omega
  have hd2 : decide ((s.size : Int) ≤ size - 20) = false := by simp; omega
  go_enter Try.func17, Try.ntmps17
  have Hp := Lib.hid (alloc_new w (.cells #[.int .i64 f, .int .i64 t, .int .i64 pr, .int .i64 ttl, .int .i64 id, .bool true, .bool mf, .int .i64 off, .string s] 26))
  have HB := below_alloc (o := .cells #[.int .i64 f, .int .i64 t, .int .i64 pr, .int .i64 ttl, .int .i64 id, .bool true, .bool mf, .int .i64 off, .string s] 26) (Below.refl w.heap.size w)
  go_wp2_with fail
  refine (HV.out _).mono ?_
  rintro e w1 ⟨rfl, hb⟩
  have Hp' := Lib.hid (bblock hb Hp.out); clear Hp; have Hp := Hp'; clear Hp'
  have HB' := below_call HB hb; clear HB hb; have HB := HB'; clear HB'; have hz1' := HB.size
  obtain ⟨⟨q0, q1, q2, q3, q4, q5, q6, q7, q8⟩, z0, z1, z2, z3, z4, z5, z6, z7, z8⟩ := cells9 Hp.out
  have lt_p := blk_lt Hp.out
  go_wp2_with fail
  go_ret2
  exact ⟨_, rfl, World.ownsRow_nil _ _ _ _, HB⟩

set_option maxRecDepth 100000 in
set_option maxHeartbeats 4000000 in
theorem rfragment_cut (f t pr ttl id : Int) (mf : Bool) (off : Int) (s : ByteArray) (size : Int) (n : Nat) (w : World) (hv : VLen f t pr ttl id false mf off s.size) (h68 : 68 ≤ size) (hbig : size < 20 + s.size) (hn : Hid (((n : Nat) : Int) = (size - 20) / 8 * 8)) :
    Calls Try.prog 17 #[.agg #[.int .i64 f, .int .i64 t, .int .i64 pr, .int .i64 ttl, .int .i64 id, .bool false, .bool mf, .int .i64 off, .string s], .int .i64 size] w fun e w' =>
      ∃ v, e = .returned (.tuple #[v, .int .i64 0]) ∧ w'.ownsRow w.heap.size 26 9 v (count ⟨f, t, pr, ttl, id, false, mf, off, s⟩ n) (pkCells (frags ⟨f, t, pr, ttl, id, false, mf, off, s⟩ n (count ⟨f, t, pr, ttl, id, false, mf, off, s⟩ n))) ∧ Below w.heap.size w w' := by
  have hs : s.size ≤ 4000 := by unfold VLen at hv; omega
  have HV := Lib.hid fun w => rvalid_any f t pr ttl id false mf off s w (by omega)
  rw [show vlenB f t pr ttl id false mf off s.size = true from decide_eq_true hv] at HV
  have ho : 0 ≤ off ∧ off ≤ 4000 := by unfold VLen at hv; omega
  obtain ⟨ho, ho'⟩ := ho
  have hn1 : 1 ≤ n ∧ n ≤ 4000 := by have := hn.out; omega
  clear hv
  obtain ⟨i0, hi, hz0, hz1, hz2⟩ := info_parts infoPk
  have hd1 : decide (size < 68) = false := by simp; omega
  have hd2 : decide ((s.size : Int) ≤ size - 20) = false := by simp; omega
  go_enter Try.func17, Try.ntmps17
  have Hp := Lib.hid (alloc_new w (.cells #[.int .i64 f, .int .i64 t, .int .i64 pr, .int .i64 ttl, .int .i64 id, .bool false, .bool mf, .int .i64 off, .string s] 26))
  have HB := below_alloc (o := .cells #[.int .i64 f, .int .i64 t, .int .i64 pr, .int .i64 ttl, .int .i64 id, .bool false, .bool mf, .int .i64 off, .string s] 26) (Below.refl w.heap.size w)
  go_wp2_with fail
  refine (HV.out _).mono ?_
  rintro e w1 ⟨rfl, hb⟩
  have Hp' := Lib.hid (bblock hb Hp.out); clear Hp; have Hp := Hp'; clear Hp'
  have HB' := below_call HB hb; clear HB hb; have HB := HB'; clear HB'; have hz1' := HB.size
  obtain ⟨⟨q0, q1, q2, q3, q4, q5, q6, q7, q8⟩, z0, z1, z2, z3, z4, z5, z6, z7, z8⟩ := cells9 Hp.out
  have lt_p := blk_lt Hp.out
  go_wp2_with fail
  clear q0 q1 q2 q3 q4 q5 q6 q7 q8 z0 z1 z2 z3 z4 z5 z6 z7 z8
  simp only [← hn.out]
  obtain ⟨base, hbase, hbase'⟩ : ∃ b, w.heap.size < b ∧ b ≤ w1.heap.size := ⟨w1.heap.size, lt_p, Nat.le_refl _⟩
  go_loopw [8, 9] (fun o i wr => ∃ k : Nat, i = .int .i64 ((n * k : Nat) : Int) ∧ (∀ j, j < k → n * j < s.size) ∧ wr.heap[w.heap.size]? = some (.cells #[.int .i64 f, .int .i64 t, .int .i64 pr, .int .i64 ttl, .int .i64 id, .bool false, .bool mf, .int .i64 off, .string s] 26) ∧ wr.ownsRow base 26 9 o k (pkCells (frags ⟨f, t, pr, ttl, id, false, mf, off, s⟩ n k)) ∧ Below w.heap.size w wr ∧ base ≤ wr.heap.size)
    (fun o i wr => s.size + n - (intOf i).toNat)
  case atStart => exact ⟨0, by simp, fun j hj => by omega, Hp.out, World.ownsRow_nil _ _ _ _, HB, hbase'⟩
  case round =>
    clear Hp HB
    obtain ⟨k, rfl, hk, hp, hrow, HB, hbw⟩ := hrel
    have HK := Lib.hid hk; clear hk
    have Hp := Lib.hid hp
    obtain ⟨⟨q0, q1, q2, q3, q4, q5, q6, q7, q8⟩, z0, z1, z2, z3, z4, z5, z6, z7, z8⟩ := cells9 hp
    clear hp
    have lt_p := blk_lt Hp.out
    by_cases hlt : n * k < s.size
    · have hcnt : k < count ⟨f, t, pr, ttl, id, false, mf, off, s⟩ n := (count_lt ⟨f, t, pr, ttl, id, false, mf, off, s⟩ n k hn1.1).2 hlt
      have hk4 : k < 4000 := by have := count_le ⟨f, t, pr, ttl, id, false, mf, off, s⟩ n hn1.1; simp only at this; omega
      have HX : Hid (pieceAt ⟨f, t, pr, ttl, id, false, mf, off, s⟩ n k = ⟨f, t, pr, ttl, id, false, mf || decide (n * k + n < s.size), off + ((n * k : Nat) : Int), s.extract (n * k) (min (n * k + n) s.size)⟩) := Lib.hid rfl
      have HN : Hid (n * (k + 1) = n * k + n) := Lib.hid (Nat.mul_succ n k)
      generalize n * k = at0 at *
      by_cases hle : at0 + n < s.size
      · have hmin : min (at0 + n) s.size = at0 + n := by omega
        rw [hmin, decide_eq_true hle, Bool.or_true] at HX
        have hmin' : min ((at0 : Int) + n) s.size = (at0 : Int) + n := by omega
        have hdI : decide ((at0 : Int) + n < s.size) = true := by simp; omega
        clear hmin
        go_wp2_with (at_builtin; refine wpList_append_own _ rfl _ _ 29 rfl base 26 i0 (.agg #[.int .i64 0, .int .i64 0, .int .i64 0, .int .i64 0, .int .i64 0, .bool false, .bool false, .int .i64 0, .string ⟨#[]⟩]) 9 72 Try.underlying29 hi hz0 hz1 hz2 rfl (by decide) _ _ _ rfl ((hrow.alloc _).alloc _) ⟨wr.heap.size + 1, 0, none⟩ 1 1 #[.int .i64 f, .int .i64 t, .int .i64 pr, .int .i64 ttl, .int .i64 id, .bool false, .bool true, .int .i64 (off + (at0 : Int)), .string (s.extract at0 (at0 + n))].toList rfl rfl (World.news_of_block (alloc_new' (wr.alloc (.cells #[.int .i64 f, .int .i64 t, .int .i64 pr, .int .i64 ttl, .int .i64 id, .bool false, .bool true, .int .i64 (off + (at0 : Int)), .string (s.extract at0 (at0 + n))] 26)) (.cells #[.int .i64 f, .int .i64 t, .int .i64 pr, .int .i64 ttl, .int .i64 id, .bool false, .bool true, .int .i64 (off + (at0 : Int)), .string (s.extract at0 (at0 + n))] 26) _ (by simp))) (by simp [Value.oneCell']) (by unfold maxLen; omega) (by omega) (by simp; omega) ?_; intro v' w2 hown' hgrow _)
        have hp2 := (hgrow.block w.heap.size (by simp; omega) (fun e => by have := (hrow.lt _ e.symm).1; omega)).trans (block_alloc (block_alloc Hp.out _) _)
        have hB2 : Below w.heap.size w w2 := (below_alloc (below_alloc HB)).grown hgrow (by simp; omega) (fun k e => by have := (hrow.lt _ e).1; omega)
        have hs2 : wr.heap.size ≤ w2.heap.size := by have := hgrow.size; simp at this; omega
        have hrow2 : w2.ownsRow base 26 9 v' (k + 1) (pkCells (frags ⟨f, t, pr, ttl, id, false, mf, off, s⟩ n (k + 1))) := by rw [frags_succ, HX.out, pkCells_snoc]; exact hown'
        have HR2 := Lib.hid hrow2
        have HP2 := Lib.hid hp2
        clear hown' hrow2 hp2 hgrow q0 q1 q2 q3 q4 q5 q6 q7 q8 z0 z1 z2 z3 z4 z5 z6 z7 z8
        go_wp2_with fail
        go_roundw
        case rel =>
          refine ⟨k + 1, ?_, ?_, HP2.out, HR2.out, hB2, by omega⟩
          · rw [HN.out]; go_num
          · intro j hj
            rcases Nat.lt_succ_iff_lt_or_eq.1 hj with c | c
            · exact HK.out j c
            · rw [c]; exact (count_lt ⟨f, t, pr, ttl, id, false, mf, off, s⟩ n k hn1.1).1 hcnt
        case measure => simp [intOf]; omega
      · by_cases hge : s.size < at0 + n
        · have hmin : min (at0 + n) s.size = s.size := by omega
          rw [hmin, decide_eq_false hle, Bool.or_false] at HX
          have hmin' : min ((at0 : Int) + n) s.size = s.size := by omega
          have hdI : decide ((at0 : Int) + n < s.size) = false := by simp; omega
          have hdJ : decide ((at0 : Int) + n ≤ s.size) = false := by simp; omega
          clear hmin
          go_wp2_with (at_builtin; refine wpList_append_own _ rfl _ _ 29 rfl base 26 i0 (.agg #[.int .i64 0, .int .i64 0, .int .i64 0, .int .i64 0, .int .i64 0, .bool false, .bool false, .int .i64 0, .string ⟨#[]⟩]) 9 72 Try.underlying29 hi hz0 hz1 hz2 rfl (by decide) _ _ _ rfl ((hrow.alloc _).alloc _) ⟨wr.heap.size + 1, 0, none⟩ 1 1 #[.int .i64 f, .int .i64 t, .int .i64 pr, .int .i64 ttl, .int .i64 id, .bool false, .bool mf, .int .i64 (off + (at0 : Int)), .string (s.extract at0 s.size)].toList rfl rfl (World.news_of_block (alloc_new' (wr.alloc (.cells #[.int .i64 f, .int .i64 t, .int .i64 pr, .int .i64 ttl, .int .i64 id, .bool false, .bool mf, .int .i64 (off + (at0 : Int)), .string (s.extract at0 s.size)] 26)) (.cells #[.int .i64 f, .int .i64 t, .int .i64 pr, .int .i64 ttl, .int .i64 id, .bool false, .bool mf, .int .i64 (off + (at0 : Int)), .string (s.extract at0 s.size)] 26) _ (by simp))) (by simp [Value.oneCell']) (by unfold maxLen; omega) (by omega) (by simp; omega) ?_; intro v' w2 hown' hgrow _)
          have hp2 := (hgrow.block w.heap.size (by simp; omega) (fun e => by have := (hrow.lt _ e.symm).1; omega)).trans (block_alloc (block_alloc Hp.out _) _)
          have hB2 : Below w.heap.size w w2 := (below_alloc (below_alloc HB)).grown hgrow (by simp; omega) (fun k e => by have := (hrow.lt _ e).1; omega)
          have hs2 : wr.heap.size ≤ w2.heap.size := by have := hgrow.size; simp at this; omega
          have hrow2 : w2.ownsRow base 26 9 v' (k + 1) (pkCells (frags ⟨f, t, pr, ttl, id, false, mf, off, s⟩ n (k + 1))) := by rw [frags_succ, HX.out, pkCells_snoc]; exact hown'
          have HR2 := Lib.hid hrow2
          have HP2 := Lib.hid hp2
          clear hown' hrow2 hp2 hgrow q0 q1 q2 q3 q4 q5 q6 q7 q8 z0 z1 z2 z3 z4 z5 z6 z7 z8
          go_wp2_with fail
          go_roundw
          case rel =>
            refine ⟨k + 1, ?_, ?_, HP2.out, HR2.out, hB2, by omega⟩
            · rw [HN.out]; go_num
            · intro j hj
              rcases Nat.lt_succ_iff_lt_or_eq.1 hj with c | c
              · exact HK.out j c
              · rw [c]; exact (count_lt ⟨f, t, pr, ttl, id, false, mf, off, s⟩ n k hn1.1).1 hcnt
          case measure => simp [intOf]; omega
        · have hmin : min (at0 + n) s.size = at0 + n := by omega
          rw [hmin, decide_eq_false hle, Bool.or_false] at HX
          have hmin' : min ((at0 : Int) + n) s.size = (at0 : Int) + n := by omega
          have hdI : decide ((at0 : Int) + n < s.size) = false := by simp; omega
          clear hmin
          go_wp2_with (at_builtin; refine wpList_append_own _ rfl _ _ 29 rfl base 26 i0 (.agg #[.int .i64 0, .int .i64 0, .int .i64 0, .int .i64 0, .int .i64 0, .bool false, .bool false, .int .i64 0, .string ⟨#[]⟩]) 9 72 Try.underlying29 hi hz0 hz1 hz2 rfl (by decide) _ _ _ rfl ((hrow.alloc _).alloc _) ⟨wr.heap.size + 1, 0, none⟩ 1 1 #[.int .i64 f, .int .i64 t, .int .i64 pr, .int .i64 ttl, .int .i64 id, .bool false, .bool mf, .int .i64 (off + (at0 : Int)), .string (s.extract at0 (at0 + n))].toList rfl rfl (World.news_of_block (alloc_new' (wr.alloc (.cells #[.int .i64 f, .int .i64 t, .int .i64 pr, .int .i64 ttl, .int .i64 id, .bool false, .bool mf, .int .i64 (off + (at0 : Int)), .string (s.extract at0 (at0 + n))] 26)) (.cells #[.int .i64 f, .int .i64 t, .int .i64 pr, .int .i64 ttl, .int .i64 id, .bool false, .bool mf, .int .i64 (off + (at0 : Int)), .string (s.extract at0 (at0 + n))] 26) _ (by simp))) (by simp [Value.oneCell']) (by unfold maxLen; omega) (by omega) (by simp; omega) ?_; intro v' w2 hown' hgrow _)
          have hp2 := (hgrow.block w.heap.size (by simp; omega) (fun e => by have := (hrow.lt _ e.symm).1; omega)).trans (block_alloc (block_alloc Hp.out _) _)
          have hB2 : Below w.heap.size w w2 := (below_alloc (below_alloc HB)).grown hgrow (by simp; omega) (fun k e => by have := (hrow.lt _ e).1; omega)
          have hs2 : wr.heap.size ≤ w2.heap.size := by have := hgrow.size; simp at this; omega
          have hrow2 : w2.ownsRow base 26 9 v' (k + 1) (pkCells (frags ⟨f, t, pr, ttl, id, false, mf, off, s⟩ n (k + 1))) := by rw [frags_succ, HX.out, pkCells_snoc]; exact hown'
          have HR2 := Lib.hid hrow2
          have HP2 := Lib.hid hp2
          clear hown' hrow2 hp2 hgrow q0 q1 q2 q3 q4 q5 q6 q7 q8 z0 z1 z2 z3 z4 z5 z6 z7 z8
          go_wp2_with fail
          go_roundw
          case rel =>
            refine ⟨k + 1, ?_, ?_, HP2.out, HR2.out, hB2, by omega⟩
            · rw [HN.out]; go_num
            · intro j hj
              rcases Nat.lt_succ_iff_lt_or_eq.1 hj with c | c
              · exact HK.out j c
              · rw [c]; exact (count_lt ⟨f, t, pr, ttl, id, false, mf, off, s⟩ n k hn1.1).1 hcnt
          case measure => simp [intOf]; omega
    · have HE : Hid (k = count ⟨f, t, pr, ttl, id, false, mf, off, s⟩ n) := Lib.hid (count_eq ⟨f, t, pr, ttl, id, false, mf, off, s⟩ n k hn1.1 (by simp only; omega) HK.out)
      generalize n * k = at0 at *
      go_wp2_with fail
      go_ret2
      rw [← HE.out]
      exact ⟨_, rfl, ownsRow_mono hrow (by omega), HB⟩
theorem rFragment_any (p : Pk) (size : Int) (w : World) (hs : p.s.size ≤ 1000000) (hsz : size ≤ 9223372036854775807) :
    Calls Try.prog 17 #[p.val, .int .i64 size] w fun e w' => ∃ v, e = .returned (.tuple #[v, .int .i64 (fragErr p size)]) ∧ w'.ownsRow w.heap.size 26 9 v (fragList p size).length (pkCells (fragList p size)) ∧ Below w.heap.size w w' := by
  obtain ⟨f, t, pr, ttl, id, df, mf, off, s⟩ := p
  unfold fragErr fragList Pk.val
  dsimp only at *
  by_cases hv : VLen f t pr ttl id df mf off s.size
  · simp only [hv, not_true_eq_false, if_false]
    by_cases h68 : size < 68
    · simp only [h68, if_true]
      exact rfragment_arg f t pr ttl id df mf off s size w hs hsz hv h68
    · simp only [h68, if_false]
      by_cases hbig : 20 + (s.size : Int) ≤ size
      · simp only [hbig, if_true]
        have := rfragment_one f t pr ttl id df mf off s size w hs hsz hv (by omega) hbig
        simpa [pkCells] using this
      · simp only [hbig, if_false]
        cases df with
        | true =>
          simp only [if_true]
          exact rfragment_df f t pr ttl id true mf off s size w hs hsz hv (by omega) (by omega) (Lib.hid rfl)
        | false =>
          simp only [Bool.false_eq_true, if_false]
          rw [frags_length]
          exact rfragment_cut f t pr ttl id mf off s size (fragN size) w hv (by omega) (by omega) (Lib.hid (by unfold fragN; omega))
  · simp only [hv, not_false_eq_true, if_true]
    exact rfragment_inv f t pr ttl id df mf off s size w hs hsz hv
end Go.Proofs.Ytabfihknhbfjeaa.Ip
