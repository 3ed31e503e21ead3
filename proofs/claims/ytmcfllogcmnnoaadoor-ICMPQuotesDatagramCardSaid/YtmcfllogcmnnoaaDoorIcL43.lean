/-
  The walk of the law ICMPQuotesDatagram.
-/
import Derived.Test.YtmcfllogcmnnoaaDoorIcA
import Derived.Test.YtmcfllogcmnnoaaDoorLaw06b
import Derived.Deep.DeepCutAuto
import Derived.BigQuiet
namespace Go.Proofs.YtmcfllogcmnnoaaDoor.Ic
set_option maxRecDepth 100000
open Go.RowKit Go.Proofs.YtmcfllogcmnnoaaDoor.Wire Go.Proofs.YtmcfllogcmnnoaaDoor.Gen
open Go.Proofs.YtmcfllogcmnnoaaDoor.Ip (In64 Pk VLen encP)

def pkEqB (p q : Pk) : Bool := (p.f == q.f) && (p.t == q.t) && (p.pr == q.pr) && (p.ttl == q.ttl) && (p.id == q.id) && (p.df == q.df) && (p.mf == q.mf) && (p.off == q.off) && (p.s.toList == q.s.toList)
theorem pkEqB_iff (p q : Pk) : pkEqB p q = true ↔ p = q := by
  obtain ⟨f, t, pr, ttl, id, df, mf, off, s⟩ := p
  obtain ⟨f', t', pr', ttl', id', df', mf', off', s'⟩ := q
  simp only [pkEqB, Bool.and_eq_true, beq_iff_eq, Pk.mk.injEq]
  constructor
  · rintro ⟨⟨⟨⟨⟨⟨⟨⟨a, b⟩, c⟩, d⟩, e⟩, g⟩, h⟩, i⟩, j⟩
    refine ⟨a, b, c, d, e, g, h, i, ?_⟩
    rw [ByteArray.toList_eq, ByteArray.toList_eq] at j
    exact ByteArray.ext (Array.ext' j)
  · rintro ⟨a, b, c, d, e, g, h, i, j⟩
    exact ⟨⟨⟨⟨⟨⟨⟨⟨a, b⟩, c⟩, d⟩, e⟩, g⟩, h⟩, i⟩, by rw [j]⟩
set_option maxRecDepth 100000 in
set_option maxHeartbeats 1000000 in
theorem eqPk (p q : Pk) : ∀ w : World, (Op.equalIn 10000 31 (.agg #[.int .i64 p.f, .int .i64 p.t, .int .i64 p.pr, .int .i64 p.ttl, .int .i64 p.id, .bool p.df, .bool p.mf, .int .i64 p.off, .string p.s]) (.agg #[.int .i64 q.f, .int .i64 q.t, .int .i64 q.pr, .int .i64 q.ttl, .int .i64 q.id, .bool q.df, .bool q.mf, .int .i64 q.off, .string q.s])).run Tryd.prog w = .ok (pkEqB p q) w := by
  intro w
  unfold pkEqB
  go_simp
  by_cases h0 : p.f = q.f
  case neg => rw [if_neg h0]; simp [h0]
  rw [if_pos h0]
  by_cases h1 : p.t = q.t
  case neg => rw [if_neg h1]; simp [h1]
  rw [if_pos h1]
  by_cases h2 : p.pr = q.pr
  case neg => rw [if_neg h2]; simp [h2]
  rw [if_pos h2]
  by_cases h3 : p.ttl = q.ttl
  case neg => rw [if_neg h3]; simp [h3]
  rw [if_pos h3]
  by_cases h4 : p.id = q.id
  case neg => rw [if_neg h4]; simp [h4]
  rw [if_pos h4]
  by_cases h5 : p.df = q.df
  case neg => rw [if_neg h5]; simp [h5]
  rw [if_pos h5]
  by_cases h6 : p.mf = q.mf
  case neg => rw [if_neg h6]; simp [h6]
  rw [if_pos h6]
  by_cases h7 : p.off = q.off
  case neg => rw [if_neg h7]; simp [h7]
  rw [if_pos h7]
  by_cases h8 : p.s.toList = q.s.toList
  case neg => rw [if_neg h8]; simp [h8]
  rw [if_pos h8]
  simp [h0, h1, h2, h3, h4, h5, h6, h7, h8]
theorem wrap_u8 (n : Int) (h0 : 0 ≤ n) (h1 : n ≤ 255) : IntKind.u8.wrap n = n := by rw [IntKind.wrap_u8]; omega
theorem eqMsg3 (k c n : Int) (s : ByteArray) (k' c' n' : Int) (s' : ByteArray) : ∀ w : World, (Op.equalIn 10000 23 (.agg #[.int .i64 k, .int .i64 c, .int .i64 n, .string s]) (.agg #[.int .i64 k', .int .i64 c', .int .i64 n', .string s'])).run Tryd.prog w = .ok (decide (k = k' ∧ c = c' ∧ n = n' ∧ s = s')) w := by
  intro w
  go_simp
  by_cases h0 : k = k'
  case neg => simp [h0]
  by_cases h1 : c = c'
  case neg => simp [h0, h1]
  by_cases h2 : n = n'
  case neg => simp [h0, h1, h2]
  by_cases h3 : s = s'
  · subst h3; simp [h0, h1, h2]
  · have := ba_ne h3
    rw [beq_eq_false_iff_ne] at this
    simp [h0, h1, h2, h3, this]
/-- a kind, code and number of which an error message may be made -/
def KC (k c n : Int) : Prop := failB k = true ∧ (0 ≤ k ∧ k < 256) ∧ ∀ z : Nat, z ≤ 28 → MOk k c n z
theorem kc0 : KC 3 2 0 := ⟨by decide, by decide, fun z hz => ⟨by decide, by decide, by unfold mostOf; simp; omega⟩⟩
theorem kc1 : KC 3 4 0 := ⟨by decide, by decide, fun z hz => ⟨by decide, by decide, by unfold mostOf; simp; omega⟩⟩
theorem kc2 : KC 4 2 0 := ⟨by decide, by decide, fun z hz => ⟨by decide, by decide, by unfold mostOf; simp; omega⟩⟩
theorem kc3 : KC 5 0 500 := ⟨by decide, by decide, fun z hz => ⟨by decide, by decide, by unfold mostOf; simp; omega⟩⟩
theorem picks4 (pw : Int) (h : 0 ≤ pw ∧ pw < 4) : ∃ (pn : Nat) (k c n : Int), pw = (pn : Int) ∧ pn < 4 ∧ KC k c n ∧ (∀ h : pn < 4, ([Value.int .i64 3, .int .i64 3, .int .i64 4, .int .i64 5] : List Value)[pn] = .int .i64 k) ∧ (∀ h : pn < 4, ([Value.int .i64 2, .int .i64 4, .int .i64 2, .int .i64 0] : List Value)[pn] = .int .i64 c) ∧ (∀ h : pn < 4, ([Value.int .i64 0, .int .i64 0, .int .i64 0, .int .i64 500] : List Value)[pn] = .int .i64 n) := by
  have hc : pw = 0 ∨ pw = 1 ∨ pw = 2 ∨ pw = 3 := by omega
  rcases hc with rfl | rfl | rfl | rfl
  · exact ⟨0, 3, 2, 0, rfl, by omega, kc0, fun _ => rfl, fun _ => rfl, fun _ => rfl⟩
  · exact ⟨1, 3, 4, 0, rfl, by omega, kc1, fun _ => rfl, fun _ => rfl, fun _ => rfl⟩
  · exact ⟨2, 4, 2, 0, rfl, by omega, kc2, fun _ => rfl, fun _ => rfl, fun _ => rfl⟩
  · exact ⟨3, 5, 0, 500, rfl, by omega, kc3, fun _ => rfl, fun _ => rfl, fun _ => rfl⟩
set_option maxHeartbeats 8000000 in
theorem quote_law (x0 x1 x2 x3 x4 x5 x6 x7 : Int) (xs : ByteArray) (wh : Int) (a0 a1 : Addr) (w : World) (hg : GlE w a0 a1) (h0 : In64 x0) (h1 : In64 x1) (h2 : In64 x2) (h3 : In64 x3) (h4 : In64 x4) (h5 : In64 x5) (h6 : In64 x6) (h7 : In64 x7) (hs : xs.size ≤ 9223372036854775807) (hwh : In64 wh) :
    Calls Tryd.prog 8 #[.agg #[.int .i64 x0, .int .i64 x1, .int .i64 x2, .int .i64 x3, .int .i64 x4, .int .i64 x5, .int .i64 x6, .int .i64 x7, .string xs], .int .i64 wh] w fun e w' => e = .returned (.bool true) ∧ Below w.heap.size w w' := by
  have hg0 := Lib.hid hg
  go_enter Tryd.func8, Tryd.ntmps8
  have HB := Below.refl w.heap.size w
  have Hx := Lib.hid (alloc_new' w (.cells #[.int .i64 x0, .int .i64 x1, .int .i64 x2, .int .i64 x3, .int .i64 x4, .int .i64 x5, .int .i64 x6, .int .i64 x7, .string xs] 37) (w.heap.size) (by simp))
  have HB' := below_alloc (o := .cells #[.int .i64 x0, .int .i64 x1, .int .i64 x2, .int .i64 x3, .int .i64 x4, .int .i64 x5, .int .i64 x6, .int .i64 x7, .string xs] 37) HB; clear HB; have HB := HB'; clear HB'
  go_wp2_with fail
  refine (sane_any a0 a1 _ (hg0.out.below HB)).mono ?_
  rintro e w1 ⟨rfl, hb⟩
  have Hx' := Lib.hid (bblock hb Hx.out); clear Hx; have Hx := Hx'; clear Hx'
  have HB' := below_call HB hb; clear HB hb; have HB := HB'; clear HB'; have hz1 := HB.size
  have lt_x_1 := blk_lt Hx.out
  have Sx := cells9 Hx.out
  obtain ⟨⟨qx0, qx1, qx2, qx3, qx4, qx5, qx6, qx7, qx8⟩, zx0, zx1, zx2, zx3, zx4, zx5, zx6, zx7, zx8⟩ := Sx
  have lt_x := blk_lt Hx.out
  go_wp2_with fail
  refine (Ip.packetFrom_any x0 x1 x2 x3 x4 x5 x6 x7 xs _ h0 h1 h2 h3 h4 h5 h6 h7 hs).mono ?_
  rintro e w2 ⟨p, hp, hps, rfl, hb⟩
  clear qx0 zx0 qx1 zx1 qx2 zx2 qx3 zx3 qx4 zx4 qx5 zx5 qx6 zx6 qx7 zx7 qx8 zx8
  have Hx' := Lib.hid (bblock hb Hx.out); clear Hx; have Hx := Hx'; clear Hx'
  have HB' := below_call HB hb; clear HB hb; have HB := HB'; clear HB'; have hz2 := HB.size
  have lt_x_2 := blk_lt Hx.out
  clear Hx
  unfold Pk.val
  have Hp := Lib.hid (alloc_new' w2 (.cells #[.int .i64 p.f, .int .i64 p.t, .int .i64 p.pr, .int .i64 p.ttl, .int .i64 p.id, .bool p.df, .bool p.mf, .int .i64 p.off, .string p.s] 31) (w2.heap.size) (by simp))
  have HB' := below_alloc (o := .cells #[.int .i64 p.f, .int .i64 p.t, .int .i64 p.pr, .int .i64 p.ttl, .int .i64 p.id, .bool p.df, .bool p.mf, .int .i64 p.off, .string p.s] 31) HB; clear HB; have HB := HB'; clear HB'
  have PW := Lib.hid fun W => pick8_any wh 4 W hwh (by omega) (by omega)
  have hw4 := pick_lt wh 4 (by omega)
  generalize pick wh 4 = pw at *
  obtain ⟨pn, k, c, n, rfl, hpn, hkc, hk, hcc, hnn⟩ := picks4 pw hw4
  have hz1 : (0 : Int) ≤ (pn : Int) := by omega
  have hz2 : (pn : Int) < 4 := by omega
  have HKC := Lib.hid hkc; clear hkc
  have hk := Lib.hid hk; have hcc := Lib.hid hcc; have hnn := Lib.hid hnn
  go_upto_region 6 with (go_at_call 23; (with_reducible refine (PW.out _).mono ?_); rintro e w' ⟨rfl, rfl⟩)
  have Hp' := Lib.hid (block_alloc Hp.out (.cells #[.int .i64 3, .int .i64 3, .int .i64 4, .int .i64 5] 3)); clear Hp; have Hp := Hp'; clear Hp'
  have HB' := below_alloc (o := .cells #[.int .i64 3, .int .i64 3, .int .i64 4, .int .i64 5] 3) HB; clear HB; have HB := HB'; clear HB'
  have Hp' := Lib.hid (block_alloc Hp.out (.cells #[.int .i64 2, .int .i64 4, .int .i64 2, .int .i64 0] 3)); clear Hp; have Hp := Hp'; clear Hp'
  have HB' := below_alloc (o := .cells #[.int .i64 2, .int .i64 4, .int .i64 2, .int .i64 0] 3) HB; clear HB; have HB := HB'; clear HB'
  have Hp' := Lib.hid (block_alloc Hp.out (.cells #[.int .i64 0, .int .i64 0, .int .i64 0, .int .i64 500] 3)); clear Hp; have Hp := Hp'; clear Hp'
  have HB' := below_alloc (o := .cells #[.int .i64 0, .int .i64 0, .int .i64 0, .int .i64 500] 3) HB; clear HB; have HB := HB'; clear HB'
  generalize (((w2.alloc (.cells #[.int .i64 p.f, .int .i64 p.t, .int .i64 p.pr, .int .i64 p.ttl, .int .i64 p.id, .bool p.df, .bool p.mf, .int .i64 p.off, .string p.s] 31)).alloc (.cells #[.int .i64 3, .int .i64 3, .int .i64 4, .int .i64 5] 3)).alloc (.cells #[.int .i64 2, .int .i64 4, .int .i64 2, .int .i64 0] 3)).alloc (.cells #[.int .i64 0, .int .i64 0, .int .i64 0, .int .i64 500] 3) = W6 at *
  clear hk hcc hnn PW
  have hps2 : p.s.size ≤ 9223372036854775807 := by omega
  have HNP := Lib.hid fun W => newError_any k c n p W hps2
  unfold Pk.val at HNP
  have heq := eqMsg3 0 0 0 ⟨#[]⟩ 0 0 0 ⟨#[]⟩
  rw [decide_eq_true (by exact ⟨rfl, rfl, rfl, rfl⟩)] at heq
  have HPO := Lib.hid hp; clear hp
  by_cases hoff : p.off = 0
  case neg =>
    have hof : (p.off != 0) = true := by simpa using hoff
    have HNE : Hid (∀ W, Calls Tryd.prog 24 #[.int .i64 k, .int .i64 c, .int .i64 n, .agg #[.int .i64 p.f, .int .i64 p.t, .int .i64 p.pr, .int .i64 p.ttl, .int .i64 p.id, .bool p.df, .bool p.mf, .int .i64 p.off, .string p.s]] W fun e w' => e = .returned (.tuple #[.agg #[.int .i64 0, .int .i64 0, .int .i64 0, .string ⟨#[]⟩], .bool false]) ∧ Below W.heap.size W w') := Lib.hid fun W => by
      refine (HNP.out W).mono ?_
      rintro e w' ⟨⟨q, -⟩ | ⟨-, rfl⟩, hb⟩
      · exact absurd q (fun q => hoff q.2.1)
      · exact ⟨rfl, hb⟩
    clear HNP hoff
    obtain ⟨⟨p0, p1, p2, p3, p4, p5, p6, p7, p8⟩, -⟩ := cells9 Hp.out
    go_wp2_with (go_at_call 24; (with_reducible refine (HNE.out _).mono ?_); rintro e w7 ⟨rfl, hb7⟩; have Hp7 := Lib.hid (block_alloc (bblock hb7 Hp.out) (.cells #[.int .i64 0, .int .i64 0, .int .i64 0, .string ⟨#[]⟩] 23)); obtain ⟨⟨q0, q1, q2, q3, q4, q5, q6, q7, q8⟩, -⟩ := cells9 Hp7.out; obtain ⟨⟨m0, m1, m2, m3⟩, -⟩ := cells4 (alloc_new w7 (.cells #[.int .i64 0, .int .i64 0, .int .i64 0, .string ⟨#[]⟩] 23)))
    go_ret
    exact ⟨rfl, below_alloc (below_call HB hb7)⟩
  have hof : (p.off != 0) = false := by simpa using hoff
  have HOF := Lib.hid hoff; clear hoff
  by_cases hto : p.t = 4294967295
  case pos =>
    have hof2 : (p.t == 4294967295) = true := beq_iff_eq.2 hto
    have HNE : Hid (∀ W, Calls Tryd.prog 24 #[.int .i64 k, .int .i64 c, .int .i64 n, .agg #[.int .i64 p.f, .int .i64 p.t, .int .i64 p.pr, .int .i64 p.ttl, .int .i64 p.id, .bool p.df, .bool p.mf, .int .i64 p.off, .string p.s]] W fun e w' => e = .returned (.tuple #[.agg #[.int .i64 0, .int .i64 0, .int .i64 0, .string ⟨#[]⟩], .bool false]) ∧ Below W.heap.size W w') := Lib.hid fun W => by
      refine (HNP.out W).mono ?_
      rintro e w' ⟨⟨q, -⟩ | ⟨-, rfl⟩, hb⟩
      · exact absurd q (fun q => q.2.2.1 hto)
      · exact ⟨rfl, hb⟩
    clear HNP hto
    obtain ⟨⟨p0, p1, p2, p3, p4, p5, p6, p7, p8⟩, -⟩ := cells9 Hp.out
    go_wp2_with (go_at_call 24; (with_reducible refine (HNE.out _).mono ?_); rintro e w7 ⟨rfl, hb7⟩; have Hp7 := Lib.hid (block_alloc (bblock hb7 Hp.out) (.cells #[.int .i64 0, .int .i64 0, .int .i64 0, .string ⟨#[]⟩] 23)); obtain ⟨⟨q0, q1, q2, q3, q4, q5, q6, q7, q8⟩, -⟩ := cells9 Hp7.out; obtain ⟨⟨m0, m1, m2, m3⟩, -⟩ := cells4 (alloc_new w7 (.cells #[.int .i64 0, .int .i64 0, .int .i64 0, .string ⟨#[]⟩] 23)))
    go_ret
    exact ⟨rfl, below_alloc (below_call HB hb7)⟩
  have hof2 : (p.t == 4294967295) = false := beq_eq_false_iff_ne.2 hto
  have HTO := Lib.hid hto; clear hto
  cases hca : carB p with
  | true =>
    have hpr : (p.pr == 1) = true := by
      have := hca
      unfold carB at this
      simp only [Bool.and_eq_true, decide_eq_true_eq] at this
      exact beq_iff_eq.2 this.1
    have HNE : Hid (∀ W, Calls Tryd.prog 24 #[.int .i64 k, .int .i64 c, .int .i64 n, .agg #[.int .i64 p.f, .int .i64 p.t, .int .i64 p.pr, .int .i64 p.ttl, .int .i64 p.id, .bool p.df, .bool p.mf, .int .i64 p.off, .string p.s]] W fun e w' => e = .returned (.tuple #[.agg #[.int .i64 0, .int .i64 0, .int .i64 0, .string ⟨#[]⟩], .bool false]) ∧ Below W.heap.size W w') := Lib.hid fun W => by
      refine (HNP.out W).mono ?_
      rintro e w' ⟨⟨q, -⟩ | ⟨-, rfl⟩, hb⟩
      · exact absurd q (fun q => (by have q := q.2.2.2.1; rw [hca] at q; cases q))
      · exact ⟨rfl, hb⟩
    clear HNP hca
    obtain ⟨⟨p0, p1, p2, p3, p4, p5, p6, p7, p8⟩, -⟩ := cells9 Hp.out
    go_wp2_with (go_at_call 24; (with_reducible refine (HNE.out _).mono ?_); rintro e w7 ⟨rfl, hb7⟩; have Hp7 := Lib.hid (block_alloc (bblock hb7 Hp.out) (.cells #[.int .i64 0, .int .i64 0, .int .i64 0, .string ⟨#[]⟩] 23)); obtain ⟨⟨q0, q1, q2, q3, q4, q5, q6, q7, q8⟩, -⟩ := cells9 Hp7.out; obtain ⟨⟨m0, m1, m2, m3⟩, -⟩ := cells4 (alloc_new w7 (.cells #[.int .i64 0, .int .i64 0, .int .i64 0, .string ⟨#[]⟩] 23)))
    go_ret
    exact ⟨rfl, below_alloc (below_call HB hb7)⟩
  | false =>
    have hne : neOk k c n p := ⟨HPO.out, HOF.out, HTO.out, hca, HKC.out.1, HKC.out.2.2 _ (by rw [quoteP_size]; omega)⟩
    have HNE : Hid (∀ W, Calls Tryd.prog 24 #[.int .i64 k, .int .i64 c, .int .i64 n, .agg #[.int .i64 p.f, .int .i64 p.t, .int .i64 p.pr, .int .i64 p.ttl, .int .i64 p.id, .bool p.df, .bool p.mf, .int .i64 p.off, .string p.s]] W fun e w' => e = .returned (.tuple #[.agg #[.int .i64 k, .int .i64 c, .int .i64 n, .string (quoteP p)], .bool true]) ∧ Below W.heap.size W w') := Lib.hid fun W => by
      refine (HNP.out W).mono ?_
      rintro e w' ⟨⟨-, rfl⟩ | ⟨q, -⟩, hb⟩
      · exact ⟨rfl, hb⟩
      · exact absurd hne q
    obtain ⟨S8, hS8⟩ : ∃ S8 : ByteArray, S8 = ⟨(p.s.data.toList.take 8).toArray⟩ := ⟨_, rfl⟩
    have HQU : Hid (∀ W, Calls Tryd.prog 18 #[.agg #[.int .i64 k, .int .i64 c, .int .i64 n, .string (quoteP p)]] W fun e w' => e = .returned (.tuple #[.agg #[.int .i64 p.f, .int .i64 p.t, .int .i64 p.pr, .int .i64 p.ttl, .int .i64 p.id, .bool p.df, .bool p.mf, .int .i64 p.off, .string S8], .bool true]) ∧ Below W.heap.size W w') := Lib.hid fun W => by
      refine (quoted_any k c n (quoteP p) W (by rw [quoteP_size]; omega)).mono ?_
      rintro e w' ⟨⟨-, rfl⟩ | ⟨q, -⟩, hb⟩
      · exact ⟨by rw [quote_val p HPO.out, ← hS8]; rfl, hb⟩
      · exact absurd (quote_ok hne) q
    clear hS8
    obtain ⟨E, hE⟩ : ∃ E : ByteArray, E = ⟨(encP p).toArray⟩ := ⟨_, rfl⟩
    have HIE : Hid (∀ W, Calls Tryd.prog 27 #[.agg #[.int .i64 p.f, .int .i64 p.t, .int .i64 p.pr, .int .i64 p.ttl, .int .i64 p.id, .bool p.df, .bool p.mf, .int .i64 p.off, .string p.s]] W fun e w' => e = .returned (.tuple #[.string E, .int .i64 0]) ∧ Below W.heap.size W w') := Lib.hid fun W => by rw [hE]; exact Ip.Encode_ok p.f p.t p.pr p.ttl p.id p.df p.mf p.off p.s W HPO.out
    have HEQ : Hid (E.extract 0 (min (E.size : Int) 28).toNat = quoteP p) := Lib.hid (by
      have e : (min (E.size : Int) 28).toNat = min 28 (encP p).length := by rw [hE, sz]; omega
      rw [e, hE]
      unfold quoteP
      exact rfl)
    have hEz : (0 : Int) ≤ min (E.size : Int) 28 ∧ min (E.size : Int) 28 ≤ (E.size : Int) := by omega
    have HEN := Lib.hid fun W => encode_ok k c n (quoteP p) W hne.2.2.2.2.2
    have hTs : (⟨(menc k c n (quoteP p)).toArray⟩ : ByteArray).size = 8 + (quoteP p).size := by rw [sz, menc_len]
    have hT0 := menc_head k c n (quoteP p) HKC.out.2.1.1 HKC.out.2.1.2
    obtain ⟨T, hT⟩ : ∃ T : ByteArray, T = ⟨(menc k c n (quoteP p)).toArray⟩ := ⟨_, rfl⟩
    rw [← hT] at HEN hTs
    have HN2 : Hid (∀ W, Calls Tryd.prog 24 #[.int .i64 k, .int .i64 c, .int .i64 n, .agg #[.int .i64 1, .int .i64 p.f, .int .i64 1, .int .i64 5, .int .i64 0, .bool false, .bool false, .int .i64 0, .string T]] W fun e w' => e = .returned (.tuple #[.agg #[.int .i64 0, .int .i64 0, .int .i64 0, .string ⟨#[]⟩], .bool false]) ∧ Below W.heap.size W w') := Lib.hid fun W => by
      have hq := quoteP_size p
      refine (newError_any k c n { f := 1, t := p.f, pr := 1, ttl := 5, id := 0, df := false, mf := false, off := 0, s := T } W (by show T.size ≤ _; omega)).mono ?_
      rintro e w' ⟨⟨q, -⟩ | ⟨-, rfl⟩, hb⟩
      · exfalso
        have q := q.2.2.2.1
        unfold carB at q
        dsimp only at q
        have h0 : T.data.toList.getD 0 0 = (menc k c n (quoteP p)).getD 0 0 := by rw [hT]
        rw [h0, hT0] at q
        have e1 : decide (0 < T.size) = true := decide_eq_true (by omega)
        have e2 : ((k.toNat : Nat) : Int) = k := Int.toNat_of_nonneg HKC.out.2.1.1
        rw [e1, e2, HKC.out.1] at q
        simp at q
      · exact ⟨rfl, hb⟩
    clear hT hT0 hTs hE HNP heq
    have heq := eqPk p p
    rw [show pkEqB p p = true from (pkEqB_iff p p).2 rfl] at heq
    generalize quoteP p = Q at *
    have hqs : ((E.extract 0 (min (E.size : Int) 28).toNat).toList == Q.toList) = true := by rw [HEQ.out]; simp
    have hqe := HEQ.out
    clear hca hne
    have Sp := cells9 Hp.out
    obtain ⟨⟨qp0, qp1, qp2, qp3, qp4, qp5, qp6, qp7, qp8⟩, zp0, zp1, zp2, zp3, zp4, zp5, zp6, zp7, zp8⟩ := Sp
    have lt_p := blk_lt Hp.out
    go_wp2_with fail
    refine (HNE.out _).mono ?_
    rintro e w3 ⟨rfl, hb⟩
    clear qp0 zp0 qp1 zp1 qp2 zp2 qp3 zp3 qp4 zp4 qp5 zp5 qp6 zp6 qp7 zp7 qp8 zp8
    have Hp' := Lib.hid (bblock hb Hp.out); clear Hp; have Hp := Hp'; clear Hp'
    have HB' := below_call HB hb; clear HB hb; have HB := HB'; clear HB'; have hz3 := HB.size
    have lt_p_3 := blk_lt Hp.out
    have Hm := Lib.hid (alloc_new' w3 (.cells #[.int .i64 k, .int .i64 c, .int .i64 n, .string Q] 23) (w3.heap.size) (by simp))
    have Hp' := Lib.hid (block_alloc Hp.out (.cells #[.int .i64 k, .int .i64 c, .int .i64 n, .string Q] 23)); clear Hp; have Hp := Hp'; clear Hp'
    have HB' := below_alloc (o := .cells #[.int .i64 k, .int .i64 c, .int .i64 n, .string Q] 23) HB; clear HB; have HB := HB'; clear HB'
    have Sp := cells9 Hp.out
    obtain ⟨⟨qp0, qp1, qp2, qp3, qp4, qp5, qp6, qp7, qp8⟩, zp0, zp1, zp2, zp3, zp4, zp5, zp6, zp7, zp8⟩ := Sp
    have lt_p := blk_lt Hp.out
    have Sm := cells4 Hm.out
    obtain ⟨⟨qm0, qm1, qm2, qm3⟩, zm0, zm1, zm2, zm3⟩ := Sm
    have lt_m := blk_lt Hm.out
    go_wp2_with fail
    refine (HQU.out _).mono ?_
    rintro e w4 ⟨rfl, hb⟩
    clear qp0 zp0 qp1 zp1 qp2 zp2 qp3 zp3 qp4 zp4 qp5 zp5 qp6 zp6 qp7 zp7 qp8 zp8
    clear qm0 zm0 qm1 zm1 qm2 zm2 qm3 zm3
    have Hp' := Lib.hid (bblock hb Hp.out); clear Hp; have Hp := Hp'; clear Hp'
    have Hm' := Lib.hid (bblock hb Hm.out); clear Hm; have Hm := Hm'; clear Hm'
    have HB' := below_call HB hb; clear HB hb; have HB := HB'; clear HB'; have hz4 := HB.size
    have lt_p_4 := blk_lt Hp.out
    have lt_m_4 := blk_lt Hm.out
    have Hq := Lib.hid (alloc_new' w4 (.cells #[.int .i64 p.f, .int .i64 p.t, .int .i64 p.pr, .int .i64 p.ttl, .int .i64 p.id, .bool p.df, .bool p.mf, .int .i64 p.off, .string S8] 31) (w4.heap.size) (by simp))
    have Hp' := Lib.hid (block_alloc Hp.out (.cells #[.int .i64 p.f, .int .i64 p.t, .int .i64 p.pr, .int .i64 p.ttl, .int .i64 p.id, .bool p.df, .bool p.mf, .int .i64 p.off, .string S8] 31)); clear Hp; have Hp := Hp'; clear Hp'
    have Hm' := Lib.hid (block_alloc Hm.out (.cells #[.int .i64 p.f, .int .i64 p.t, .int .i64 p.pr, .int .i64 p.ttl, .int .i64 p.id, .bool p.df, .bool p.mf, .int .i64 p.off, .string S8] 31)); clear Hm; have Hm := Hm'; clear Hm'
    have HB' := below_alloc (o := .cells #[.int .i64 p.f, .int .i64 p.t, .int .i64 p.pr, .int .i64 p.ttl, .int .i64 p.id, .bool p.df, .bool p.mf, .int .i64 p.off, .string S8] 31) HB; clear HB; have HB := HB'; clear HB'
    have Sp := cells9 Hp.out
    obtain ⟨⟨qp0, qp1, qp2, qp3, qp4, qp5, qp6, qp7, qp8⟩, zp0, zp1, zp2, zp3, zp4, zp5, zp6, zp7, zp8⟩ := Sp
    have lt_p := blk_lt Hp.out
    go_wp2_with fail
    refine (HIE.out _).mono ?_
    rintro e w5 ⟨rfl, hb⟩
    clear qp0 zp0 qp1 zp1 qp2 zp2 qp3 zp3 qp4 zp4 qp5 zp5 qp6 zp6 qp7 zp7 qp8 zp8
    have Hp' := Lib.hid (bblock hb Hp.out); clear Hp; have Hp := Hp'; clear Hp'
    have Hm' := Lib.hid (bblock hb Hm.out); clear Hm; have Hm := Hm'; clear Hm'
    have Hq' := Lib.hid (bblock hb Hq.out); clear Hq; have Hq := Hq'; clear Hq'
    have HB' := below_call HB hb; clear HB hb; have HB := HB'; clear HB'; have hz5 := HB.size
    have lt_p_5 := blk_lt Hp.out
    have lt_m_5 := blk_lt Hm.out
    have lt_q_5 := blk_lt Hq.out
    have Sm := cells4 Hm.out
    obtain ⟨⟨qm0, qm1, qm2, qm3⟩, zm0, zm1, zm2, zm3⟩ := Sm
    have lt_m := blk_lt Hm.out
    go_wp2_with fail
    refine (HEN.out _).mono ?_
    rintro e w6 ⟨rfl, hb⟩
    clear qm0 zm0 qm1 zm1 qm2 zm2 qm3 zm3
    have Hp' := Lib.hid (bblock hb Hp.out); clear Hp; have Hp := Hp'; clear Hp'
    have Hm' := Lib.hid (bblock hb Hm.out); clear Hm; have Hm := Hm'; clear Hm'
    have Hq' := Lib.hid (bblock hb Hq.out); clear Hq; have Hq := Hq'; clear Hq'
    have HB' := below_call HB hb; clear HB hb; have HB := HB'; clear HB'; have hz6 := HB.size
    have lt_p_6 := blk_lt Hp.out
    have lt_m_6 := blk_lt Hm.out
    have lt_q_6 := blk_lt Hq.out
    have Sp := cells9 Hp.out
    obtain ⟨⟨qp0, qp1, qp2, qp3, qp4, qp5, qp6, qp7, qp8⟩, zp0, zp1, zp2, zp3, zp4, zp5, zp6, zp7, zp8⟩ := Sp
    have lt_p := blk_lt Hp.out
    go_wp2_with fail
    refine (HN2.out _).mono ?_
    rintro e w7 ⟨rfl, hb⟩
    clear qp0 zp0 qp1 zp1 qp2 zp2 qp3 zp3 qp4 zp4 qp5 zp5 qp6 zp6 qp7 zp7 qp8 zp8
    have Hp' := Lib.hid (bblock hb Hp.out); clear Hp; have Hp := Hp'; clear Hp'
    have Hm' := Lib.hid (bblock hb Hm.out); clear Hm; have Hm := Hm'; clear Hm'
    have Hq' := Lib.hid (bblock hb Hq.out); clear Hq; have Hq := Hq'; clear Hq'
    have HB' := below_call HB hb; clear HB hb; have HB := HB'; clear HB'; have hz7 := HB.size
    have lt_p_7 := blk_lt Hp.out
    have lt_m_7 := blk_lt Hm.out
    have lt_q_7 := blk_lt Hq.out
    have Sp := cells9 Hp.out
    obtain ⟨⟨qp0, qp1, qp2, qp3, qp4, qp5, qp6, qp7, qp8⟩, zp0, zp1, zp2, zp3, zp4, zp5, zp6, zp7, zp8⟩ := Sp
    have lt_p := blk_lt Hp.out
    have Sq := cells9 Hq.out
    obtain ⟨⟨qq0, qq1, qq2, qq3, qq4, qq5, qq6, qq7, qq8⟩, zq0, zq1, zq2, zq3, zq4, zq5, zq6, zq7, zq8⟩ := Sq
    have lt_q := blk_lt Hq.out
    go_upto_region 16 with fail
    clear qp0 zp0 qp1 zp1 qp2 zp2 qp3 zp3 qp4 zp4 qp5 zp5 qp6 zp6 qp7 zp7 qp8 zp8 qq0 zq0 qq1 zq1 qq2 zq2 qq3 zq3 qq4 zq4 qq5 zq5 qq6 zq6 qq7 zq7 qq8 zq8
    have Hp' := Lib.hid (block_set_other (a := ⟨w4.heap.size, 8, none⟩) (u := .string p.s) Hp.out (by first | (simp; done) | (simp; omega))); clear Hp; have Hp := Hp'; clear Hp'
    have Hm' := Lib.hid (block_set_other (a := ⟨w4.heap.size, 8, none⟩) (u := .string p.s) Hm.out (by first | (simp; done) | (simp; omega))); clear Hm; have Hm := Hm'; clear Hm'
    have Hq' := Lib.hid (cells_eq (b := #[.int .i64 p.f, .int .i64 p.t, .int .i64 p.pr, .int .i64 p.ttl, .int .i64 p.id, .bool p.df, .bool p.mf, .int .i64 p.off, .string p.s]) (block_setCell (k := 8) (v := .string p.s) Hq.out) rfl); clear Hq; have Hq := Hq'; clear Hq'
    have HB' := Below.setCell HB (p := ⟨w4.heap.size, 8, none⟩) (by first | (simp; done) | (simp; omega)) (.string p.s); clear HB; have HB := HB'; clear HB'
    have Hp' := Lib.hid (block_alloc Hp.out (.cells #[.int .i64 0, .int .i64 0, .int .i64 0, .string ⟨#[]⟩] 23)); clear Hp; have Hp := Hp'; clear Hp'
    have Hm' := Lib.hid (block_alloc Hm.out (.cells #[.int .i64 0, .int .i64 0, .int .i64 0, .string ⟨#[]⟩] 23)); clear Hm; have Hm := Hm'; clear Hm'
    have Hq' := Lib.hid (block_alloc Hq.out (.cells #[.int .i64 0, .int .i64 0, .int .i64 0, .string ⟨#[]⟩] 23)); clear Hq; have Hq := Hq'; clear Hq'
    have HB' := below_alloc (o := .cells #[.int .i64 0, .int .i64 0, .int .i64 0, .string ⟨#[]⟩] 23) HB; clear HB; have HB := HB'; clear HB'
    generalize (World.setCell w7 ⟨w4.heap.size, 8, none⟩ (.string p.s)).alloc (.cells #[.int .i64 0, .int .i64 0, .int .i64 0, .string ⟨#[]⟩] 23) = W9 at *
    have Sp := cells9 Hp.out
    obtain ⟨⟨qp0, qp1, qp2, qp3, qp4, qp5, qp6, qp7, qp8⟩, zp0, zp1, zp2, zp3, zp4, zp5, zp6, zp7, zp8⟩ := Sp
    have lt_p := blk_lt Hp.out
    have Sq := cells9 Hq.out
    obtain ⟨⟨qq0, qq1, qq2, qq3, qq4, qq5, qq6, qq7, qq8⟩, zq0, zq1, zq2, zq3, zq4, zq5, zq6, zq7, zq8⟩ := Sq
    have lt_q := blk_lt Hq.out
    have Sm := cells4 Hm.out
    obtain ⟨⟨qm0, qm1, qm2, qm3⟩, zm0, zm1, zm2, zm3⟩ := Sm
    have lt_m := blk_lt Hm.out
    go_quiet (fail)
    go_wp2_with fail
    go_ret
    exact ⟨rfl, below_drewN HB _⟩
end Go.Proofs.YtmcfllogcmnnoaaDoor.Ic
