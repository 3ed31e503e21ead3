/-
  ip.Fragment at every datagram and size.
-/
import Derived.Test.YtpiohahfdekmhaaDoorFrag2
import Derived.Laws.OwnMore
namespace Go.Proofs.YtpiohahfdekmhaaDoor.Ip
set_option maxRecDepth 100000
open Go.RowKit Go.Shelf Go.Proofs.YtpiohahfdekmhaaDoor.Wire

set_option maxRecDepth 100000 in
set_option maxHeartbeats 1000000 in
theorem fragment_inv (f t pr ttl id : Int) (df mf : Bool) (off : Int) (s : ByteArray) (size : Int) (w : World) (hs : s.size ≤ 1000000) (hv : ¬ VLen f t pr ttl id df mf off s.size) :
    Calls Tryd.prog 13 #[.agg #[.int .i64 f, .int .i64 t, .int .i64 pr, .int .i64 ttl, .int .i64 id, .bool df, .bool mf, .int .i64 off, .string s], .int .i64 size] w fun e w' => ∃ v, e = .returned (.tuple #[v, .int .i64 60]) ∧ w'.ownsRow w.heap.size 26 9 v 0 ([]) ∧ Below w.heap.size w w' := by
  have HV := Lib.hid fun w => valid_any f t pr ttl id df mf off s w (by omega)
  rw [show vlenB f t pr ttl id df mf off s.size = false from decide_eq_false hv] at HV
  clear hv
  go_enter Tryd.func13, Tryd.ntmps13
  have Hp := Lib.hid (alloc_new w (.cells #[.int .i64 f, .int .i64 t, .int .i64 pr, .int .i64 ttl, .int .i64 id, .bool df, .bool mf, .int .i64 off, .string s] 26))
  have HB := below_alloc (o := .cells #[.int .i64 f, .int .i64 t, .int .i64 pr, .int .i64 ttl, .int .i64 id, .bool df, .bool mf, .int .i64 off, .string s] 26) (Below.refl w.heap.size w)
  go_wp2_with fail
  refine (HV.out _).mono ?_
  rintro e w1 ⟨rfl, hb⟩
  have Hp' := Lib.hid (bblock hb Hp.out); clear Hp; have Hp := Hp'; clear Hp'
  have HB' := below_call HB hb; clear HB hb; have HB := HB'; clear HB'; have hz1' := HB.size
  obtain ⟨⟨q0, q1, q2, q3, q4, q5, q6, q7, q8⟩, z0, z1, z2, z3, z4, z5, z6, z7, z8⟩ := cells9 Hp.out
  have lt_p := blk_lt Hp.out
  go_wp2_with fail
  go_ret2
  exact ⟨_, rfl, World.ownsRow_nil _ _ _ _, HB⟩

set_option maxRecDepth 100000 in
set_option maxHeartbeats 1000000 in
theorem fragment_arg (f t pr ttl id : Int) (df mf : Bool) (off : Int) (s : ByteArray) (size : Int) (w : World) (hs : s.size ≤ 1000000) (hv : VLen f t pr ttl id df mf off s.size) (h68 : size < 68) :
    Calls Tryd.prog 13 #[.agg #[.int .i64 f, .int .i64 t, .int .i64 pr, .int .i64 ttl, .int .i64 id, .bool df, .bool mf, .int .i64 off, .string s], .int .i64 size] w fun e w' => ∃ v, e = .returned (.tuple #[v, .int .i64 2]) ∧ w'.ownsRow w.heap.size 26 9 v 0 ([]) ∧ Below w.heap.size w w' := by
  have HV := Lib.hid fun w => valid_any f t pr ttl id df mf off s w (by omega)
  rw [show vlenB f t pr ttl id df mf off s.size = true from decide_eq_true hv] at HV
  clear hv
  have hd1 : decide (size < 68) = true := by simp; omega
  go_enter Tryd.func13, Tryd.ntmps13
  have Hp := Lib.hid (alloc_new w (.cells #[.int .i64 f, .int .i64 t, .int .i64 pr, .int .i64 ttl, .int .i64 id, .bool df, .bool mf, .int .i64 off, .string s] 26))
  have HB := below_alloc (o := .cells #[.int .i64 f, .int .i64 t, .int .i64 pr, .int .i64 ttl, .int .i64 id, .bool df, .bool mf, .int .i64 off, .string s] 26) (Below.refl w.heap.size w)
  go_wp2_with fail
  refine (HV.out _).mono ?_
  rintro e w1 ⟨rfl, hb⟩
  have Hp' := Lib.hid (bblock hb Hp.out); clear Hp; have Hp := Hp'; clear Hp'
  have HB' := below_call HB hb; clear HB hb; have HB := HB'; clear HB'; have hz1' := HB.size
  obtain ⟨⟨q0, q1, q2, q3, q4, q5, q6, q7, q8⟩, z0, z1, z2, z3, z4, z5, z6, z7, z8⟩ := cells9 Hp.out
  have lt_p := blk_lt Hp.out
  go_wp2_with fail
  go_ret2
  exact ⟨_, rfl, World.ownsRow_nil _ _ _ _, HB⟩

set_option maxRecDepth 100000 in
set_option maxHeartbeats 1000000 in
theorem fragment_one (f t pr ttl id : Int) (df mf : Bool) (off : Int) (s : ByteArray) (size : Int) (w : World) (hs : s.size ≤ 1000000) (hv : VLen f t pr ttl id df mf off s.size) (h68 : 68 ≤ size) (hbig : 20 + (s.size : Int) ≤ size) :
    Calls Tryd.prog 13 #[.agg #[.int .i64 f, .int .i64 t, .int .i64 pr, .int .i64 ttl, .int .i64 id, .bool df, .bool mf, .int .i64 off, .string s], .int .i64 size] w fun e w' => ∃ v, e = .returned (.tuple #[v, .int .i64 0]) ∧ w'.ownsRow w.heap.size 26 9 v 1 (Pk.cells ⟨f, t, pr, ttl, id, df, mf, off, s⟩) ∧ Below w.heap.size w w' := by
  have HV := Lib.hid fun w => valid_any f t pr ttl id df mf off s w (by omega)
  rw [show vlenB f t pr ttl id df mf off s.size = true from decide_eq_true hv] at HV
  clear hv
  have hd1 : decide (size < 68) = false := by simp; omega
  have hd2 : decide (20 + (s.size : Int) ≤ size) = true := by simp; omega
  go_enter Tryd.func13, Tryd.ntmps13
  have Hp := Lib.hid (alloc_new w (.cells #[.int .i64 f, .int .i64 t, .int .i64 pr, .int .i64 ttl, .int .i64 id, .bool df, .bool mf, .int .i64 off, .string s] 26))
  have HB := below_alloc (o := .cells #[.int .i64 f, .int .i64 t, .int .i64 pr, .int .i64 ttl, .int .i64 id, .bool df, .bool mf, .int .i64 off, .string s] 26) (Below.refl w.heap.size w)
  go_wp2_with fail
  refine (HV.out _).mono ?_
  rintro e w1 ⟨rfl, hb⟩
  have Hp' := Lib.hid (bblock hb Hp.out); clear Hp; have Hp := Hp'; clear Hp'
  have HB' := below_call HB hb; clear HB hb; have HB := HB'; clear HB'; have hz1' := HB.size
  obtain ⟨⟨q0, q1, q2, q3, q4, q5, q6, q7, q8⟩, z0, z1, z2, z3, z4, z5, z6, z7, z8⟩ := cells9 Hp.out
  have lt_p := blk_lt Hp.out
  go_wp2_with fail
  go_ret2
  exact ⟨_, rfl, World.ownsRow_lit w1 #[.int .i64 f, .int .i64 t, .int .i64 pr, .int .i64 ttl, .int .i64 id, .bool df, .bool mf, .int .i64 off, .string s] 1 (by omega) (by unfold maxLen; omega) rfl, below_alloc HB⟩

set_option maxRecDepth 100000 in
set_option maxHeartbeats 1000000 in
theorem fragment_df (f t pr ttl id : Int) (df mf : Bool) (off : Int) (s : ByteArray) (size : Int) (w : World) (hs : s.size ≤ 1000000) (hv : VLen f t pr ttl id df mf off s.size) (h68 : 68 ≤ size) (hbig : size < 20 + (s.size : Int)) (hdf : Hid (df = true)) :
    Calls Tryd.prog 13 #[.agg #[.int .i64 f, .int .i64 t, .int .i64 pr, .int .i64 ttl, .int .i64 id, .bool df, .bool mf, .int .i64 off, .string s], .int .i64 size] w fun e w' => ∃ v, e = .returned (.tuple #[v, .int .i64 61]) ∧ w'.ownsRow w.heap.size 26 9 v 0 ([]) ∧ Below w.heap.size w w' := by
  have HV := Lib.hid fun w => valid_any f t pr ttl id df mf off s w (by omega)
  rw [show vlenB f t pr ttl id df mf off s.size = true from decide_eq_true hv] at HV
  clear hv
  have hdf2 := hdf.out; subst hdf2; clear hdf
  have hd1 : decide (size < 68) = false := by simp; omega
  have hd2 : decide (20 + (s.size : Int) ≤ size) = false := by simp; omega
  go_enter Tryd.func13, Tryd.ntmps13
  have Hp := Lib.hid (alloc_new w (.cells #[.int .i64 f, .int .i64 t, .int .i64 pr, .int .i64 ttl, .int .i64 id, .bool true, .bool mf, .int .i64 off, .string s] 26))
  have HB := below_alloc (o := .cells #[.int .i64 f, .int .i64 t, .int .i64 pr, .int .i64 ttl, .int .i64 id, .bool true, .bool mf, .int .i64 off, .string s] 26) (Below.refl w.heap.size w)
  go_wp2_with fail
  refine (HV.out _).mono ?_
  rintro e w1 ⟨rfl, hb⟩
  have Hp' := Lib.hid (bblock hb Hp.out); clear Hp; have Hp := Hp'; clear Hp'
  have HB' := below_call HB hb; clear HB hb; have HB := HB'; clear HB'; have hz1' := HB.size
  obtain ⟨⟨q0, q1, q2, q3, q4, q5, q6, q7, q8⟩, z0, z1, z2, z3, z4, z5, z6, z7, z8⟩ := cells9 Hp.out
  have lt_p := blk_lt Hp.out
  go_wp2_with fail
  go_ret2
  exact ⟨_, rfl, World.ownsRow_nil _ _ _ _, HB⟩

/-- the number of bytes of a fragment -/
def fragN (size : Int) : Nat := ((size - 20) / 8 * 8).toNat
/-- what Fragment returns -/
def fragList (p : Pk) (size : Int) : List Pk :=
  if ¬ VLen p.f p.t p.pr p.ttl p.id p.df p.mf p.off p.s.size then [] else if size < 68 then [] else if 20 + (p.s.size : Int) ≤ size then [p] else if p.df = true then [] else frags p (fragN size) (count p (fragN size))
def fragErr (p : Pk) (size : Int) : Int :=
  if ¬ VLen p.f p.t p.pr p.ttl p.id p.df p.mf p.off p.s.size then 60 else if size < 68 then 2 else if 20 + (p.s.size : Int) ≤ size then 0 else if p.df = true then 61 else 0
theorem Fragment_any (p : Pk) (size : Int) (w : World) (hs : p.s.size ≤ 1000000) :
    Calls Tryd.prog 13 #[p.val, .int .i64 size] w fun e w' => ∃ v, e = .returned (.tuple #[v, .int .i64 (fragErr p size)]) ∧ w'.ownsRow w.heap.size 26 9 v (fragList p size).length (pkCells (fragList p size)) ∧ Below w.heap.size w w' := by
  obtain ⟨f, t, pr, ttl, id, df, mf, off, s⟩ := p
  unfold fragErr fragList Pk.val
  dsimp only at *
  by_cases hv : VLen f t pr ttl id df mf off s.size
  · simp only [hv, not_true_eq_false, if_false]
    by_cases h68 : size < 68
    · simp only [h68, if_true]
      exact fragment_arg f t pr ttl id df mf off s size w hs hv h68
    · simp only [h68, if_false]
      by_cases hbig : 20 + (s.size : Int) ≤ size
      · simp only [hbig, if_true]
        have := fragment_one f t pr ttl id df mf off s size w hs hv (by omega) hbig
        simpa [pkCells] using this
      · simp only [hbig, if_false]
        cases df with
        | true =>
          simp only [if_true]
          exact fragment_df f t pr ttl id true mf off s size w hs hv (by omega) (by omega) (Lib.hid rfl)
        | false =>
          simp only [Bool.false_eq_true, if_false]
          rw [frags_length]
          exact (callsIn_wide (n := 3)).1 (fragment_cut f t pr ttl id mf off s size (fragN size) w hv (by omega) (by omega) (Lib.hid (by unfold fragN; omega)))
  · simp only [hv, not_false_eq_true, if_true]
    exact fragment_inv f t pr ttl id df mf off s size w hs hv
end Go.Proofs.YtpiohahfdekmhaaDoor.Ip
