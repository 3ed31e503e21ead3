/-
  The contract of Mutate (chapter 6): some datagram, of at most 4100 bytes or with the payload that it had.
-/
import Derived.Test.YtabfihknhbfjeaaLaw06b
namespace Go.Proofs.Ytabfihknhbfjeaa.Ip
open Go.RowKit Go.Proofs.Ytabfihknhbfjeaa.Wire Go.Proofs.Ytabfihknhbfjeaa.Gen

/-- what Mutate returns -/
def MuPost (n0 : Nat) (w : World) (e : Ending) (w' : World) : Prop := (∃ p : Pk, p.s.size ≤ n0 + 4100 ∧ e = .returned (.agg #[.int .i64 p.f, .int .i64 p.t, .int .i64 p.pr, .int .i64 p.ttl, .int .i64 p.id, .bool p.df, .bool p.mf, .int .i64 p.off, .string p.s])) ∧ Below w.heap.size w w'

set_option maxRecDepth 100000 in
set_option maxHeartbeats 2000000 in
theorem mutate_0 (f t pr ttl id : Int) (df mf : Bool) (off : Int) (s : ByteArray) (which n : Int) (w : World) (_ : s.size ≤ 1000000) (_ : In64 n) (HP : Hid (∀ w, Calls Try.prog 15 #[.int .i64 which, .int .i64 9] w fun e w' => e = .returned (.int .i64 0) ∧ w = w')) :
    Calls Try.prog 10 #[.agg #[.int .i64 f, .int .i64 t, .int .i64 pr, .int .i64 ttl, .int .i64 id, .bool df, .bool mf, .int .i64 off, .string s], .int .i64 which, .int .i64 n] w (MuPost s.size w) := by
  go_enter Try.func10, Try.ntmps10
  go_wp2_with fail
  refine (HP.out _).mono ?_
  rintro e w' ⟨rfl, rfl⟩
  go_wp2_with fail
  refine bodyPost_ret (v := .agg #[.int .i64 n, .int .i64 t, .int .i64 pr, .int .i64 ttl, .int .i64 id, .bool df, .bool mf, .int .i64 off, .string s]) ?_ rfl ⟨⟨⟨n, t, pr, ttl, id, df, mf, off, s⟩, by dsimp only; omega, rfl⟩, below_alloc (below_alloc (Below.refl _ _))⟩
  exact res_cell1 Try.results10 (alloc_new' (w.alloc (.cells #[.int .i64 n, .int .i64 t, .int .i64 pr, .int .i64 ttl, .int .i64 id, .bool df, .bool mf, .int .i64 off, .string s] 26)) (.cells #[.int .i64 n, .int .i64 t, .int .i64 pr, .int .i64 ttl, .int .i64 id, .bool df, .bool mf, .int .i64 off, .string s] 26) (w.heap.size + 1) (by simp)) rfl Try.underlying26 rfl (by kernel_rfl)

set_option maxRecDepth 100000 in
set_option maxHeartbeats 2000000 in
theorem mutate_1 (f t pr ttl id : Int) (df mf : Bool) (off : Int) (s : ByteArray) (which n : Int) (w : World) (_ : s.size ≤ 1000000) (_ : In64 n) (HP : Hid (∀ w, Calls Try.prog 15 #[.int .i64 which, .int .i64 9] w fun e w' => e = .returned (.int .i64 1) ∧ w = w')) :
    Calls Try.prog 10 #[.agg #[.int .i64 f, .int .i64 t, .int .i64 pr, .int .i64 ttl, .int .i64 id, .bool df, .bool mf, .int .i64 off, .string s], .int .i64 which, .int .i64 n] w (MuPost s.size w) := by
  go_enter Try.func10, Try.ntmps10
  go_wp2_with fail
  refine (HP.out _).mono ?_
  rintro e w' ⟨rfl, rfl⟩
  go_wp2_with fail
  refine bodyPost_ret (v := .agg #[.int .i64 f, .int .i64 n, .int .i64 pr, .int .i64 ttl, .int .i64 id, .bool df, .bool mf, .int .i64 off, .string s]) ?_ rfl ⟨⟨⟨f, n, pr, ttl, id, df, mf, off, s⟩, by dsimp only; omega, rfl⟩, below_alloc (below_alloc (Below.refl _ _))⟩
  exact res_cell1 Try.results10 (alloc_new' (w.alloc (.cells #[.int .i64 f, .int .i64 n, .int .i64 pr, .int .i64 ttl, .int .i64 id, .bool df, .bool mf, .int .i64 off, .string s] 26)) (.cells #[.int .i64 f, .int .i64 n, .int .i64 pr, .int .i64 ttl, .int .i64 id, .bool df, .bool mf, .int .i64 off, .string s] 26) (w.heap.size + 1) (by simp)) rfl Try.underlying26 rfl (by kernel_rfl)

set_option maxRecDepth 100000 in
set_option maxHeartbeats 2000000 in
theorem mutate_2 (f t pr ttl id : Int) (df mf : Bool) (off : Int) (s : ByteArray) (which n : Int) (w : World) (_ : s.size ≤ 1000000) (_ : In64 n) (HP : Hid (∀ w, Calls Try.prog 15 #[.int .i64 which, .int .i64 9] w fun e w' => e = .returned (.int .i64 2) ∧ w = w')) :
    Calls Try.prog 10 #[.agg #[.int .i64 f, .int .i64 t, .int .i64 pr, .int .i64 ttl, .int .i64 id, .bool df, .bool mf, .int .i64 off, .string s], .int .i64 which, .int .i64 n] w (MuPost s.size w) := by
  go_enter Try.func10, Try.ntmps10
  go_wp2_with fail
  refine (HP.out _).mono ?_
  rintro e w' ⟨rfl, rfl⟩
  go_wp2_with fail
  refine bodyPost_ret (v := .agg #[.int .i64 f, .int .i64 t, .int .i64 n, .int .i64 ttl, .int .i64 id, .bool df, .bool mf, .int .i64 off, .string s]) ?_ rfl ⟨⟨⟨f, t, n, ttl, id, df, mf, off, s⟩, by dsimp only; omega, rfl⟩, below_alloc (below_alloc (Below.refl _ _))⟩
  exact res_cell1 Try.results10 (alloc_new' (w.alloc (.cells #[.int .i64 f, .int .i64 t, .int .i64 n, .int .i64 ttl, .int .i64 id, .bool df, .bool mf, .int .i64 off, .string s] 26)) (.cells #[.int .i64 f, .int .i64 t, .int .i64 n, .int .i64 ttl, .int .i64 id, .bool df, .bool mf, .int .i64 off, .string s] 26) (w.heap.size + 1) (by simp)) rfl Try.underlying26 rfl (by kernel_rfl)

set_option maxRecDepth 100000 in
set_option maxHeartbeats 2000000 in
theorem mutate_3 (f t pr ttl id : Int) (df mf : Bool) (off : Int) (s : ByteArray) (which n : Int) (w : World) (_ : s.size ≤ 1000000) (_ : In64 n) (HP : Hid (∀ w, Calls Try.prog 15 #[.int .i64 which, .int .i64 9] w fun e w' => e = .returned (.int .i64 3) ∧ w = w')) :
    Calls Try.prog 10 #[.agg #[.int .i64 f, .int .i64 t, .int .i64 pr, .int .i64 ttl, .int .i64 id, .bool df, .bool mf, .int .i64 off, .string s], .int .i64 which, .int .i64 n] w (MuPost s.size w) := by
  go_enter Try.func10, Try.ntmps10
  go_wp2_with fail
  refine (HP.out _).mono ?_
  rintro e w' ⟨rfl, rfl⟩
  go_wp2_with fail
  refine bodyPost_ret (v := .agg #[.int .i64 f, .int .i64 t, .int .i64 pr, .int .i64 n, .int .i64 id, .bool df, .bool mf, .int .i64 off, .string s]) ?_ rfl ⟨⟨⟨f, t, pr, n, id, df, mf, off, s⟩, by dsimp only; omega, rfl⟩, below_alloc (below_alloc (Below.refl _ _))⟩
  exact res_cell1 Try.results10 (alloc_new' (w.alloc (.cells #[.int .i64 f, .int .i64 t, .int .i64 pr, .int .i64 n, .int .i64 id, .bool df, .bool mf, .int .i64 off, .string s] 26)) (.cells #[.int .i64 f, .int .i64 t, .int .i64 pr, .int .i64 n, .int .i64 id, .bool df, .bool mf, .int .i64 off, .string s] 26) (w.heap.size + 1) (by simp)) rfl Try.underlying26 rfl (by kernel_rfl)

set_option maxRecDepth 100000 in
set_option maxHeartbeats 2000000 in
theorem mutate_4 (f t pr ttl id : Int) (df mf : Bool) (off : Int) (s : ByteArray) (which n : Int) (w : World) (_ : s.size ≤ 1000000) (_ : In64 n) (HP : Hid (∀ w, Calls Try.prog 15 #[.int .i64 which, .int .i64 9] w fun e w' => e = .returned (.int .i64 4) ∧ w = w')) :
    Calls Try.prog 10 #[.agg #[.int .i64 f, .int .i64 t, .int .i64 pr, .int .i64 ttl, .int .i64 id, .bool df, .bool mf, .int .i64 off, .string s], .int .i64 which, .int .i64 n] w (MuPost s.size w) := by
  go_enter Try.func10, Try.ntmps10
  go_wp2_with fail
  refine (HP.out _).mono ?_
  rintro e w' ⟨rfl, rfl⟩
  go_wp2_with fail
  refine bodyPost_ret (v := .agg #[.int .i64 f, .int .i64 t, .int .i64 pr, .int .i64 ttl, .int .i64 n, .bool df, .bool mf, .int .i64 off, .string s]) ?_ rfl ⟨⟨⟨f, t, pr, ttl, n, df, mf, off, s⟩, by dsimp only; omega, rfl⟩, below_alloc (below_alloc (Below.refl _ _))⟩
  exact res_cell1 Try.results10 (alloc_new' (w.alloc (.cells #[.int .i64 f, .int .i64 t, .int .i64 pr, .int .i64 ttl, .int .i64 n, .bool df, .bool mf, .int .i64 off, .string s] 26)) (.cells #[.int .i64 f, .int .i64 t, .int .i64 pr, .int .i64 ttl, .int .i64 n, .bool df, .bool mf, .int .i64 off, .string s] 26) (w.heap.size + 1) (by simp)) rfl Try.underlying26 rfl (by kernel_rfl)

set_option maxRecDepth 100000 in
set_option maxHeartbeats 2000000 in
theorem mutate_5 (f t pr ttl id : Int) (df mf : Bool) (off : Int) (s : ByteArray) (which n : Int) (w : World) (_ : s.size ≤ 1000000) (_ : In64 n) (HP : Hid (∀ w, Calls Try.prog 15 #[.int .i64 which, .int .i64 9] w fun e w' => e = .returned (.int .i64 5) ∧ w = w')) :
    Calls Try.prog 10 #[.agg #[.int .i64 f, .int .i64 t, .int .i64 pr, .int .i64 ttl, .int .i64 id, .bool df, .bool mf, .int .i64 off, .string s], .int .i64 which, .int .i64 n] w (MuPost s.size w) := by
  go_enter Try.func10, Try.ntmps10
  go_wp2_with fail
  refine (HP.out _).mono ?_
  rintro e w' ⟨rfl, rfl⟩
  go_wp2_with fail
  refine bodyPost_ret (v := .agg #[.int .i64 f, .int .i64 t, .int .i64 pr, .int .i64 ttl, .int .i64 id, .bool (!df), .bool mf, .int .i64 off, .string s]) ?_ rfl ⟨⟨⟨f, t, pr, ttl, id, (!df), mf, off, s⟩, by dsimp only; omega, rfl⟩, below_alloc (below_alloc (Below.refl _ _))⟩
  exact res_cell1 Try.results10 (alloc_new' (w.alloc (.cells #[.int .i64 f, .int .i64 t, .int .i64 pr, .int .i64 ttl, .int .i64 id, .bool (!df), .bool mf, .int .i64 off, .string s] 26)) (.cells #[.int .i64 f, .int .i64 t, .int .i64 pr, .int .i64 ttl, .int .i64 id, .bool (!df), .bool mf, .int .i64 off, .string s] 26) (w.heap.size + 1) (by simp)) rfl Try.underlying26 rfl (by kernel_rfl)

set_option maxRecDepth 100000 in
set_option maxHeartbeats 2000000 in
theorem mutate_6 (f t pr ttl id : Int) (df mf : Bool) (off : Int) (s : ByteArray) (which n : Int) (w : World) (_ : s.size ≤ 1000000) (_ : In64 n) (HP : Hid (∀ w, Calls Try.prog 15 #[.int .i64 which, .int .i64 9] w fun e w' => e = .returned (.int .i64 6) ∧ w = w')) :
    Calls Try.prog 10 #[.agg #[.int .i64 f, .int .i64 t, .int .i64 pr, .int .i64 ttl, .int .i64 id, .bool df, .bool mf, .int .i64 off, .string s], .int .i64 which, .int .i64 n] w (MuPost s.size w) := by
  go_enter Try.func10, Try.ntmps10
  go_wp2_with fail
  refine (HP.out _).mono ?_
  rintro e w' ⟨rfl, rfl⟩
  go_wp2_with fail
  refine bodyPost_ret (v := .agg #[.int .i64 f, .int .i64 t, .int .i64 pr, .int .i64 ttl, .int .i64 id, .bool df, .bool (!mf), .int .i64 off, .string s]) ?_ rfl ⟨⟨⟨f, t, pr, ttl, id, df, (!mf), off, s⟩, by dsimp only; omega, rfl⟩, below_alloc (below_alloc (Below.refl _ _))⟩
  exact res_cell1 Try.results10 (alloc_new' (w.alloc (.cells #[.int .i64 f, .int .i64 t, .int .i64 pr, .int .i64 ttl, .int .i64 id, .bool df, .bool (!mf), .int .i64 off, .string s] 26)) (.cells #[.int .i64 f, .int .i64 t, .int .i64 pr, .int .i64 ttl, .int .i64 id, .bool df, .bool (!mf), .int .i64 off, .string s] 26) (w.heap.size + 1) (by simp)) rfl Try.underlying26 rfl (by kernel_rfl)

set_option maxRecDepth 100000 in
set_option maxHeartbeats 2000000 in
theorem mutate_7 (f t pr ttl id : Int) (df mf : Bool) (off : Int) (s : ByteArray) (which n : Int) (w : World) (_ : s.size ≤ 1000000) (_ : In64 n) (HP : Hid (∀ w, Calls Try.prog 15 #[.int .i64 which, .int .i64 9] w fun e w' => e = .returned (.int .i64 7) ∧ w = w')) :
    Calls Try.prog 10 #[.agg #[.int .i64 f, .int .i64 t, .int .i64 pr, .int .i64 ttl, .int .i64 id, .bool df, .bool mf, .int .i64 off, .string s], .int .i64 which, .int .i64 n] w (MuPost s.size w) := by
  go_enter Try.func10, Try.ntmps10
  go_wp2_with fail
  refine (HP.out _).mono ?_
  rintro e w' ⟨rfl, rfl⟩
  go_wp2_with fail
  refine bodyPost_ret (v := .agg #[.int .i64 f, .int .i64 t, .int .i64 pr, .int .i64 ttl, .int .i64 id, .bool df, .bool mf, .int .i64 n, .string s]) ?_ rfl ⟨⟨⟨f, t, pr, ttl, id, df, mf, n, s⟩, by dsimp only; omega, rfl⟩, below_alloc (below_alloc (Below.refl _ _))⟩
  exact res_cell1 Try.results10 (alloc_new' (w.alloc (.cells #[.int .i64 f, .int .i64 t, .int .i64 pr, .int .i64 ttl, .int .i64 id, .bool df, .bool mf, .int .i64 n, .string s] 26)) (.cells #[.int .i64 f, .int .i64 t, .int .i64 pr, .int .i64 ttl, .int .i64 id, .bool df, .bool mf, .int .i64 n, .string s] 26) (w.heap.size + 1) (by simp)) rfl Try.underlying26 rfl (by kernel_rfl)

set_option maxRecDepth 100000 in
set_option maxHeartbeats 2000000 in
theorem mutate_8 (f t pr ttl id : Int) (df mf : Bool) (off : Int) (s : ByteArray) (which n : Int) (w : World) (hs : s.size ≤ 1000000) (hn : In64 n) (HP : Hid (∀ w, Calls Try.prog 15 #[.int .i64 which, .int .i64 9] w fun e w' => e = .returned (.int .i64 8) ∧ w = w')) :
    Calls Try.prog 10 #[.agg #[.int .i64 f, .int .i64 t, .int .i64 pr, .int .i64 ttl, .int .i64 id, .bool df, .bool mf, .int .i64 off, .string s], .int .i64 which, .int .i64 n] w (MuPost s.size w) := by
  go_enter Try.func10, Try.ntmps10
  have HB := Below.refl w.heap.size w
  have Hp := Lib.hid (alloc_new' w (.cells #[.int .i64 f, .int .i64 t, .int .i64 pr, .int .i64 ttl, .int .i64 id, .bool df, .bool mf, .int .i64 off, .string s] 26) (w.heap.size) (by simp))
  have HB' := below_alloc (o := .cells #[.int .i64 f, .int .i64 t, .int .i64 pr, .int .i64 ttl, .int .i64 id, .bool df, .bool mf, .int .i64 off, .string s] 26) HB; clear HB; have HB := HB'; clear HB'
  have Hr := Lib.hid (alloc_new' (w.alloc (.cells #[.int .i64 f, .int .i64 t, .int .i64 pr, .int .i64 ttl, .int .i64 id, .bool df, .bool mf, .int .i64 off, .string s] 26)) (.cells #[.int .i64 0, .int .i64 0, .int .i64 0, .int .i64 0, .int .i64 0, .bool false, .bool false, .int .i64 0, .string ⟨#[]⟩] 26) (w.heap.size + 1) (by simp))
  have Hp' := Lib.hid (block_alloc Hp.out (.cells #[.int .i64 0, .int .i64 0, .int .i64 0, .int .i64 0, .int .i64 0, .bool false, .bool false, .int .i64 0, .string ⟨#[]⟩] 26)); clear Hp; have Hp := Hp'; clear Hp'
  have HB' := below_alloc (o := .cells #[.int .i64 0, .int .i64 0, .int .i64 0, .int .i64 0, .int .i64 0, .bool false, .bool false, .int .i64 0, .string ⟨#[]⟩] 26) HB; clear HB; have HB := HB'; clear HB'
  go_wp2_with fail
  refine (HP.out _).mono ?_
  rintro e w' ⟨rfl, rfl⟩
  have pn := pick_lt n 400 (by omega)
  have gn : IntKind.i64.wrap (3700 + pick n 400) = 3700 + pick n 400 := IntWalk.i64_in _ (by omega)
  have HPN := Lib.hid fun w => pick_any n 400 w hn.1 hn.2 (by omega) (by omega)
  generalize pick n 400 = n4 at *
  have HPL := Lib.hid fun w => payload_any s (3700 + n4) w (by omega) (by omega) (by omega)
  have hpl := payload_length s (3700 + n4).toNat
  generalize payload s (3700 + n4).toNat = pl at *
  have hpl2 : pl.length ≤ 4100 := by omega
  clear hpl
  go_wp2_with fail
  go_region_with (first | (go_at_call 15; refine (HPN.out _).mono ?_; rintro e w' ⟨rfl, rfl⟩) | (go_at_call 23; refine (HPL.out _).mono ?_; rintro e w4 ⟨rfl, hb4⟩; obtain ⟨hc4, hf4⟩ := bcells hb4))
  all_goals
    clear hc4 hf4
    have hb5 := below_undrew hb4; clear hb4
    have Hp' := Lib.hid (cells_eq (b := #[.int .i64 f, .int .i64 t, .int .i64 pr, .int .i64 ttl, .int .i64 id, .bool df, .bool mf, .int .i64 off, .string ⟨pl.toArray⟩]) (block_setCell (k := 8) (v := .string ⟨pl.toArray⟩) (bblock hb5 Hp.out)) rfl); clear Hp; have Hp := Hp'; clear Hp'
    have Hr' := Lib.hid (block_set_other (a := ⟨w.heap.size, 8, none⟩) (u := .string ⟨pl.toArray⟩) (bblock hb5 Hr.out) (by simp)); clear Hr; have Hr := Hr'; clear Hr'
    have HB' := Below.setCell (p := ⟨w.heap.size, 8, none⟩) (below_call HB hb5) (by simp) (.string ⟨pl.toArray⟩); clear HB; have HB := HB'; clear HB'
    clear gn hb5
    generalize World.setCell w4 ⟨w.heap.size, 8, none⟩ (.string ⟨pl.toArray⟩) = wc at *
    have hz := HB.size
    have Sp := cells9 Hp.out
    obtain ⟨⟨qp0, qp1, qp2, qp3, qp4, qp5, qp6, qp7, qp8⟩, zp0, zp1, zp2, zp3, zp4, zp5, zp6, zp7, zp8⟩ := Sp
    have lt_p := blk_lt Hp.out
    have Sr := cells9 Hr.out
    obtain ⟨⟨qr0, qr1, qr2, qr3, qr4, qr5, qr6, qr7, qr8⟩, zr0, zr1, zr2, zr3, zr4, zr5, zr6, zr7, zr8⟩ := Sr
    have lt_r := blk_lt Hr.out
    go_wp2_with fail
    clear qp0 zp0 qp1 zp1 qp2 zp2 qp3 zp3 qp4 zp4 qp5 zp5 qp6 zp6 qp7 zp7 qp8 zp8 qr0 zr0 qr1 zr1 qr2 zr2 qr3 zr3 qr4 zr4 qr5 zr5 qr6 zr6 qr7 zr7 qr8 zr8
    have Hp' := Lib.hid (block_set_other (a := ⟨w.heap.size + 1, 0, none⟩) (u := .int .i64 f) Hp.out (by first | (simp; done) | (simp; omega))); clear Hp; have Hp := Hp'; clear Hp'
    have Hr' := Lib.hid (cells_eq (b := #[.int .i64 f, .int .i64 0, .int .i64 0, .int .i64 0, .int .i64 0, .bool false, .bool false, .int .i64 0, .string ⟨#[]⟩]) (block_setCell (k := 0) (v := .int .i64 f) Hr.out) rfl); clear Hr; have Hr := Hr'; clear Hr'
    have HB' := Below.setCell HB (p := ⟨w.heap.size + 1, 0, none⟩) (by first | (simp; done) | (simp; omega)) (.int .i64 f); clear HB; have HB := HB'; clear HB'
    have Hp' := Lib.hid (block_set_other (a := ⟨w.heap.size + 1, 1, none⟩) (u := .int .i64 t) Hp.out (by first | (simp; done) | (simp; omega))); clear Hp; have Hp := Hp'; clear Hp'
    have Hr' := Lib.hid (cells_eq (b := #[.int .i64 f, .int .i64 t, .int .i64 0, .int .i64 0, .int .i64 0, .bool false, .bool false, .int .i64 0, .string ⟨#[]⟩]) (block_setCell (k := 1) (v := .int .i64 t) Hr.out) rfl); clear Hr; have Hr := Hr'; clear Hr'
    have HB' := Below.setCell HB (p := ⟨w.heap.size + 1, 1, none⟩) (by first | (simp; done) | (simp; omega)) (.int .i64 t); clear HB; have HB := HB'; clear HB'
    have Hp' := Lib.hid (block_set_other (a := ⟨w.heap.size + 1, 2, none⟩) (u := .int .i64 pr) Hp.out (by first | (simp; done) | (simp; omega))); clear Hp; have Hp := Hp'; clear Hp'
    have Hr' := Lib.hid (cells_eq (b := #[.int .i64 f, .int .i64 t, .int .i64 pr, .int .i64 0, .int .i64 0, .bool false, .bool false, .int .i64 0, .string ⟨#[]⟩]) (block_setCell (k := 2) (v := .int .i64 pr) Hr.out) rfl); clear Hr; have Hr := Hr'; clear Hr'
    have HB' := Below.setCell HB (p := ⟨w.heap.size + 1, 2, none⟩) (by first | (simp; done) | (simp; omega)) (.int .i64 pr); clear HB; have HB := HB'; clear HB'
    have Hp' := Lib.hid (block_set_other (a := ⟨w.heap.size + 1, 3, none⟩) (u := .int .i64 ttl) Hp.out (by first | (simp; done) | (simp; omega))); clear Hp; have Hp := Hp'; clear Hp'
    have Hr' := Lib.hid (cells_eq (b := #[.int .i64 f, .int .i64 t, .int .i64 pr, .int .i64 ttl, .int .i64 0, .bool false, .bool false, .int .i64 0, .string ⟨#[]⟩]) (block_setCell (k := 3) (v := .int .i64 ttl) Hr.out) rfl); clear Hr; have Hr := Hr'; clear Hr'
    have HB' := Below.setCell HB (p := ⟨w.heap.size + 1, 3, none⟩) (by first | (simp; done) | (simp; omega)) (.int .i64 ttl); clear HB; have HB := HB'; clear HB'
    have Hp' := Lib.hid (block_set_other (a := ⟨w.heap.size + 1, 4, none⟩) (u := .int .i64 id) Hp.out (by first | (simp; done) | (simp; omega))); clear Hp; have Hp := Hp'; clear Hp'
    have Hr' := Lib.hid (cells_eq (b := #[.int .i64 f, .int .i64 t, .int .i64 pr, .int .i64 ttl, .int .i64 id, .bool false, .bool false, .int .i64 0, .string ⟨#[]⟩]) (block_setCell (k := 4) (v := .int .i64 id) Hr.out) rfl); clear Hr; have Hr := Hr'; clear Hr'
    have HB' := Below.setCell HB (p := ⟨w.heap.size + 1, 4, none⟩) (by first | (simp; done) | (simp; omega)) (.int .i64 id); clear HB; have HB := HB'; clear HB'
    have Hp' := Lib.hid (block_set_other (a := ⟨w.heap.size + 1, 5, none⟩) (u := .bool df) Hp.out (by first | (simp; done) | (simp; omega))); clear Hp; have Hp := Hp'; clear Hp'
    have Hr' := Lib.hid (cells_eq (b := #[.int .i64 f, .int .i64 t, .int .i64 pr, .int .i64 ttl, .int .i64 id, .bool df, .bool false, .int .i64 0, .string ⟨#[]⟩]) (block_setCell (k := 5) (v := .bool df) Hr.out) rfl); clear Hr; have Hr := Hr'; clear Hr'
    have HB' := Below.setCell HB (p := ⟨w.heap.size + 1, 5, none⟩) (by first | (simp; done) | (simp; omega)) (.bool df); clear HB; have HB := HB'; clear HB'
    have Hp' := Lib.hid (block_set_other (a := ⟨w.heap.size + 1, 6, none⟩) (u := .bool mf) Hp.out (by first | (simp; done) | (simp; omega))); clear Hp; have Hp := Hp'; clear Hp'
    have Hr' := Lib.hid (cells_eq (b := #[.int .i64 f, .int .i64 t, .int .i64 pr, .int .i64 ttl, .int .i64 id, .bool df, .bool mf, .int .i64 0, .string ⟨#[]⟩]) (block_setCell (k := 6) (v := .bool mf) Hr.out) rfl); clear Hr; have Hr := Hr'; clear Hr'
    have HB' := Below.setCell HB (p := ⟨w.heap.size + 1, 6, none⟩) (by first | (simp; done) | (simp; omega)) (.bool mf); clear HB; have HB := HB'; clear HB'
    have Hp' := Lib.hid (block_set_other (a := ⟨w.heap.size + 1, 7, none⟩) (u := .int .i64 off) Hp.out (by first | (simp; done) | (simp; omega))); clear Hp; have Hp := Hp'; clear Hp'
    have Hr' := Lib.hid (cells_eq (b := #[.int .i64 f, .int .i64 t, .int .i64 pr, .int .i64 ttl, .int .i64 id, .bool df, .bool mf, .int .i64 off, .string ⟨#[]⟩]) (block_setCell (k := 7) (v := .int .i64 off) Hr.out) rfl); clear Hr; have Hr := Hr'; clear Hr'
    have HB' := Below.setCell HB (p := ⟨w.heap.size + 1, 7, none⟩) (by first | (simp; done) | (simp; omega)) (.int .i64 off); clear HB; have HB := HB'; clear HB'
    have Hp' := Lib.hid (block_set_other (a := ⟨w.heap.size + 1, 8, none⟩) (u := .string ⟨pl.toArray⟩) Hp.out (by first | (simp; done) | (simp; omega))); clear Hp; have Hp := Hp'; clear Hp'
    have Hr' := Lib.hid (cells_eq (b := #[.int .i64 f, .int .i64 t, .int .i64 pr, .int .i64 ttl, .int .i64 id, .bool df, .bool mf, .int .i64 off, .string ⟨pl.toArray⟩]) (block_setCell (k := 8) (v := .string ⟨pl.toArray⟩) Hr.out) rfl); clear Hr; have Hr := Hr'; clear Hr'
    have HB' := Below.setCell HB (p := ⟨w.heap.size + 1, 8, none⟩) (by first | (simp; done) | (simp; omega)) (.string ⟨pl.toArray⟩); clear HB; have HB := HB'; clear HB'
    refine bodyPost_ret (v := .agg #[.int .i64 f, .int .i64 t, .int .i64 pr, .int .i64 ttl, .int .i64 id, .bool df, .bool mf, .int .i64 off, .string ⟨pl.toArray⟩]) ?_ rfl ⟨⟨⟨f, t, pr, ttl, id, df, mf, off, ⟨pl.toArray⟩⟩, by dsimp only [sz]; omega, rfl⟩, HB⟩
    exact res_cell1 Try.results10 Hr.out rfl Try.underlying26 rfl (by kernel_rfl)

theorem mutate_any (f t pr ttl id : Int) (df mf : Bool) (off : Int) (s : ByteArray) (which n : Int) (w : World) (hs : s.size ≤ 1000000) (hn : In64 n) (hw : In64 which) :
    Calls Try.prog 10 #[.agg #[.int .i64 f, .int .i64 t, .int .i64 pr, .int .i64 ttl, .int .i64 id, .bool df, .bool mf, .int .i64 off, .string s], .int .i64 which, .int .i64 n] w (MuPost s.size w) := by
  have HP := Lib.hid fun w => pick_any which 9 w hw.1 hw.2 (by omega) (by omega)
  have hp := pick_lt which 9 (by omega)
  generalize pick which 9 = c at *
  have h : c = 0 ∨ c = 1 ∨ c = 2 ∨ c = 3 ∨ c = 4 ∨ c = 5 ∨ c = 6 ∨ c = 7 ∨ c = 8 := by omega
  rcases h with rfl | rfl | rfl | rfl | rfl | rfl | rfl | rfl | rfl
  · exact mutate_0 f t pr ttl id df mf off s which n w hs hn HP
  · exact mutate_1 f t pr ttl id df mf off s which n w hs hn HP
  · exact mutate_2 f t pr ttl id df mf off s which n w hs hn HP
  · exact mutate_3 f t pr ttl id df mf off s which n w hs hn HP
  · exact mutate_4 f t pr ttl id df mf off s which n w hs hn HP
  · exact mutate_5 f t pr ttl id df mf off s which n w hs hn HP
  · exact mutate_6 f t pr ttl id df mf off s which n w hs hn HP
  · exact mutate_7 f t pr ttl id df mf off s which n w hs hn HP
  · exact mutate_8 f t pr ttl id df mf off s which n w hs hn HP
end Go.Proofs.Ytabfihknhbfjeaa.Ip
