/-
  The walk of the law ICMPPathMTUFragments.
-/
import Derived.Test.YtmcfllogcmnnoaaDoorIcA
import Derived.Test.YtmcfllogcmnnoaaDoorIcFr
import Derived.Test.YtmcfllogcmnnoaaDoorHeld
import Derived.Deep.DeepCutAuto
import Derived.BigQuiet
namespace Go.Proofs.YtmcfllogcmnnoaaDoor.Ic
set_option maxRecDepth 100000
open Go.RowKit Go.Proofs.YtmcfllogcmnnoaaDoor.Wire Go.Proofs.YtmcfllogcmnnoaaDoor.Gen
open Go.Proofs.YtmcfllogcmnnoaaDoor.Ip (In64 Pk VLen encP noDF noDF_ok fragFacts frag_at catP PkRow encP_length)

theorem own_blk {b0 B : Nat} {l : List En} {W0 W : World} (h : Own b0 B l W0 W) {k : Nat} {o : Obj} (hb : W0.heap[k]? = some o) (hk : k < b0) : W.heap[k]? = some o := (h.below.block k hk).trans hb
set_option maxHeartbeats 8000000 in
theorem frag_law (x0 x1 x2 x3 x4 x5 x6 x7 size now : Int) (xs : ByteArray) (a0 a1 : Addr) (w : World) (hg : GlE w a0 a1) (h0 : In64 x0) (h1 : In64 x1) (h2 : In64 x2) (h3 : In64 x3) (h4 : In64 x4) (h5 : In64 x5) (h6 : In64 x6) (h7 : In64 x7) (hs : xs.size ≤ 9223372036854775807) (hsz : In64 size) (hnw : In64 now) :
    Calls Tryd.prog 12 #[.agg #[.int .i64 x0, .int .i64 x1, .int .i64 x2, .int .i64 x3, .int .i64 x4, .int .i64 x5, .int .i64 x6, .int .i64 x7, .string xs], .int .i64 size, .int .i64 now] w fun e w' => e = .returned (.bool true) ∧ Below w.heap.size w w' := by
  have hg0 := Lib.hid hg
  go_enter Tryd.func12, Tryd.ntmps12
  have HB := Below.refl w.heap.size w
  have Hx := Lib.hid (alloc_new' w (.cells #[.int .i64 x0, .int .i64 x1, .int .i64 x2, .int .i64 x3, .int .i64 x4, .int .i64 x5, .int .i64 x6, .int .i64 x7, .string xs] 37) (w.heap.size) (by simp))
  have HB' := below_alloc (o := .cells #[.int .i64 x0, .int .i64 x1, .int .i64 x2, .int .i64 x3, .int .i64 x4, .int .i64 x5, .int .i64 x6, .int .i64 x7, .string xs] 37) HB; clear HB; have HB := HB'; clear HB'
  go_wp2_with fail
  refine (sane_any a0 a1 _ (hg0.out.below HB)).mono ?_
  rintro e w1 ⟨rfl, hb⟩
  have Hx' := Lib.hid (bblock hb Hx.out); clear Hx; have Hx := Hx'; clear Hx'
  have HB' := below_call HB hb; clear HB hb; have HB := HB'; clear HB'; have hz1 := HB.size
  have lt_x_1 := blk_lt Hx.out
  have Sx := cells9 Hx.out
  obtain ⟨⟨qx0, qx1, qx2, qx3, qx4, qx5, qx6, qx7, qx8⟩, zx0, zx1, zx2, zx3, zx4, zx5, zx6, zx7, zx8⟩ := Sx
  have lt_x := blk_lt Hx.out
  go_wp2_with fail
  refine (Ip.packetFrom_any x0 x1 x2 x3 x4 x5 x6 x7 xs _ h0 h1 h2 h3 h4 h5 h6 h7 hs).mono ?_
  rintro e w2 ⟨p, hp, hps, rfl, hb⟩
  clear qx0 zx0 qx1 zx1 qx2 zx2 qx3 zx3 qx4 zx4 qx5 zx5 qx6 zx6 qx7 zx7 qx8 zx8
  have Hx' := Lib.hid (bblock hb Hx.out); clear Hx; have Hx := Hx'; clear Hx'
  have HB' := below_call HB hb; clear HB hb; have HB := HB'; clear HB'; have hz2 := HB.size
  have lt_x_2 := blk_lt Hx.out
  clear Hx
  unfold Pk.val
  have Hp := Lib.hid (alloc_new' w2 (.cells #[.int .i64 p.f, .int .i64 p.t, .int .i64 p.pr, .int .i64 p.ttl, .int .i64 p.id, .bool false, .bool p.mf, .int .i64 p.off, .string p.s] 31) (w2.heap.size) (by simp))
  have HB' := below_alloc (o := .cells #[.int .i64 p.f, .int .i64 p.t, .int .i64 p.pr, .int .i64 p.ttl, .int .i64 p.id, .bool false, .bool p.mf, .int .i64 p.off, .string p.s] 31) HB; clear HB; have HB := HB'; clear HB'
  have Psz := Lib.hid fun W => pick8_any size 957 W hsz (by omega) (by omega)
  have bsz := pick_lt size 957 (by omega)
  generalize pick size 957 = sz0 at *
  have Pnw := Lib.hid fun W => pick8_any now 1000000 W hnw (by omega) (by omega)
  have bnw := pick_lt now 1000000 (by omega)
  generalize pick now 1000000 = nw0 at *
  go_upto_region 6 with (first | (go_at_call 23; (with_reducible refine (Psz.out _).mono ?_); rintro e w' ⟨rfl, rfl⟩) | (go_at_call 23; (with_reducible refine (Pnw.out _).mono ?_); rintro e w' ⟨rfl, rfl⟩))
  generalize w2.alloc (.cells #[.int .i64 p.f, .int .i64 p.t, .int .i64 p.pr, .int .i64 p.ttl, .int .i64 p.id, .bool false, .bool p.mf, .int .i64 p.off, .string p.s] 31) = W6 at *
  clear Psz Pnw
  obtain ⟨nn, hnn⟩ : ∃ nn, 68 + sz0 = nn := ⟨_, rfl⟩
  rw [hnn]
  have hn68 : 68 ≤ nn ∧ nn ≤ 1024 := by omega
  clear hnn
  have hpok := noDF_ok p hp
  have HPO := Lib.hid hpok
  have hps4 : p.s.size ≤ 4000 := by have := hp; unfold Pk.ok VLen at this; omega
  have hpo : 0 ≤ p.off ∧ p.off ≤ 4000 := by have := hp; unfold Pk.ok VLen at this; omega
  have hpt : 0 ≤ p.t ∧ p.t ≤ 4294967295 := by have := hp; unfold Pk.ok VLen at this; omega
  have HNP := Lib.hid fun W => newError_any 5 0 nn (noDF p) W (show p.s.size ≤ 9223372036854775807 by omega)
  unfold Pk.val at HNP
  dsimp only [noDF] at HNP
  have hmok : ∀ z : Nat, z ≤ 28 → MOk 5 0 nn z := fun z hz => ⟨by decide, by unfold Suits; simp; omega, by unfold mostOf; simp; omega⟩
  have HMO := Lib.hid hmok; clear hp hpok hmok
  by_cases hoff : p.off = 0
  case neg =>
    have hof : (p.off != 0) = true := by simpa using hoff
    have HNE : Hid (∀ W, Calls Tryd.prog 24 #[.int .i64 5, .int .i64 0, .int .i64 nn, .agg #[.int .i64 p.f, .int .i64 p.t, .int .i64 p.pr, .int .i64 p.ttl, .int .i64 p.id, .bool false, .bool p.mf, .int .i64 p.off, .string p.s]] W fun e w' => e = .returned (.tuple #[.agg #[.int .i64 0, .int .i64 0, .int .i64 0, .string ⟨#[]⟩], .bool false]) ∧ Below W.heap.size W w') := Lib.hid fun W => by
      refine (HNP.out W).mono ?_
      rintro e w' ⟨⟨q, -⟩ | ⟨-, rfl⟩, hb⟩
      · exact absurd q (fun q => hoff q.2.1)
      · exact ⟨rfl, hb⟩
    clear HNP hoff
    obtain ⟨⟨p0, p1, p2, p3, p4, p5, p6, p7, p8⟩, -⟩ := cells9 Hp.out
    go_wp2_with (go_at_call 24; (with_reducible refine (HNE.out _).mono ?_); rintro e w7 ⟨rfl, hb7⟩; have Hp7 := Lib.hid (block_alloc (bblock hb7 Hp.out) (.cells #[.int .i64 0, .int .i64 0, .int .i64 0, .string ⟨#[]⟩] 23)); obtain ⟨⟨q0, q1, q2, q3, q4, q5, q6, q7, q8⟩, -⟩ := cells9 Hp7.out)
    go_ret
    exact ⟨rfl, below_alloc (below_call HB hb7)⟩
  have hof : (p.off != 0) = false := by simpa using hoff
  have HOF := Lib.hid hoff; clear hoff
  by_cases hto : p.t = 4294967295
  case pos =>
    have hof2 : (p.t == 4294967295) = true := beq_iff_eq.2 hto
    have HNE : Hid (∀ W, Calls Tryd.prog 24 #[.int .i64 5, .int .i64 0, .int .i64 nn, .agg #[.int .i64 p.f, .int .i64 p.t, .int .i64 p.pr, .int .i64 p.ttl, .int .i64 p.id, .bool false, .bool p.mf, .int .i64 p.off, .string p.s]] W fun e w' => e = .returned (.tuple #[.agg #[.int .i64 0, .int .i64 0, .int .i64 0, .string ⟨#[]⟩], .bool false]) ∧ Below W.heap.size W w') := Lib.hid fun W => by
      refine (HNP.out W).mono ?_
      rintro e w' ⟨⟨q, -⟩ | ⟨-, rfl⟩, hb⟩
      · exact absurd q (fun q => q.2.2.1 hto)
      · exact ⟨rfl, hb⟩
    clear HNP hto
    obtain ⟨⟨p0, p1, p2, p3, p4, p5, p6, p7, p8⟩, -⟩ := cells9 Hp.out
    go_wp2_with (go_at_call 24; (with_reducible refine (HNE.out _).mono ?_); rintro e w7 ⟨rfl, hb7⟩; have Hp7 := Lib.hid (block_alloc (bblock hb7 Hp.out) (.cells #[.int .i64 0, .int .i64 0, .int .i64 0, .string ⟨#[]⟩] 23)); obtain ⟨⟨q0, q1, q2, q3, q4, q5, q6, q7, q8⟩, -⟩ := cells9 Hp7.out)
    go_ret
    exact ⟨rfl, below_alloc (below_call HB hb7)⟩
  have hof2 : (p.t == 4294967295) = false := beq_eq_false_iff_ne.2 hto
  have HTO := Lib.hid hto; clear hto
  cases hca : carB (noDF p) with
  | true =>
    have hpr : (p.pr == 1) = true := by
      have := hca
      unfold carB noDF at this
      simp only [Bool.and_eq_true, decide_eq_true_eq] at this
      exact beq_iff_eq.2 this.1
    have HNE : Hid (∀ W, Calls Tryd.prog 24 #[.int .i64 5, .int .i64 0, .int .i64 nn, .agg #[.int .i64 p.f, .int .i64 p.t, .int .i64 p.pr, .int .i64 p.ttl, .int .i64 p.id, .bool false, .bool p.mf, .int .i64 p.off, .string p.s]] W fun e w' => e = .returned (.tuple #[.agg #[.int .i64 0, .int .i64 0, .int .i64 0, .string ⟨#[]⟩], .bool false]) ∧ Below W.heap.size W w') := Lib.hid fun W => by
      refine (HNP.out W).mono ?_
      rintro e w' ⟨⟨q, -⟩ | ⟨-, rfl⟩, hb⟩
      · exact absurd q (fun q => (by have q := q.2.2.2.1; have hca2 := hca; unfold noDF at hca2; rw [hca2] at q; cases q))
      · exact ⟨rfl, hb⟩
    clear HNP hca
    obtain ⟨⟨p0, p1, p2, p3, p4, p5, p6, p7, p8⟩, -⟩ := cells9 Hp.out
    go_wp2_with (go_at_call 24; (with_reducible refine (HNE.out _).mono ?_); rintro e w7 ⟨rfl, hb7⟩; have Hp7 := Lib.hid (block_alloc (bblock hb7 Hp.out) (.cells #[.int .i64 0, .int .i64 0, .int .i64 0, .string ⟨#[]⟩] 23)); obtain ⟨⟨q0, q1, q2, q3, q4, q5, q6, q7, q8⟩, -⟩ := cells9 Hp7.out)
    go_ret
    exact ⟨rfl, below_alloc (below_call HB hb7)⟩
  | false =>
    have hne : neOk 5 0 nn (noDF p) := ⟨HPO.out, HOF.out, HTO.out, hca, by decide, HMO.out _ (by rw [quoteP_size]; omega)⟩
    obtain ⟨Q, hQ⟩ : ∃ Q, quoteP (noDF p) = Q := ⟨_, rfl⟩
    have HNE : Hid (∀ W, Calls Tryd.prog 24 #[.int .i64 5, .int .i64 0, .int .i64 nn, .agg #[.int .i64 p.f, .int .i64 p.t, .int .i64 p.pr, .int .i64 p.ttl, .int .i64 p.id, .bool false, .bool p.mf, .int .i64 p.off, .string p.s]] W fun e w' => e = .returned (.tuple #[.agg #[.int .i64 5, .int .i64 0, .int .i64 nn, .string Q], .bool true]) ∧ Below W.heap.size W w') := Lib.hid fun W => by
      refine (HNP.out W).mono ?_
      rintro e w' ⟨⟨-, rfl⟩ | ⟨q, -⟩, hb⟩
      · rw [← hQ]; exact ⟨rfl, hb⟩
      · exact absurd hne q
    have hQz : Q.size ≤ 28 := by rw [← hQ, quoteP_size]; omega
    have hok := HMO.out Q.size hQz
    have hD := (enc_dcK 5 0 nn Q hok)
    have HDE : Hid (∀ W, GlE W a0 a1 → Calls Tryd.prog 16 #[.string ⟨(menc 5 0 nn Q).toArray⟩] W fun e w' => e = .returned (.tuple #[.agg #[.int .i64 5, .int .i64 0, .int .i64 nn, .string Q], .int .i64 0]) ∧ Below W.heap.size W w') := Lib.hid fun W hw => by
      refine (decode_any _ (by rw [sz, menc_len]; omega) a0 a1 W hw).mono ?_
      rintro e w' ⟨hb, ⟨-, rfl⟩ | ⟨hn, -⟩⟩
      · exact ⟨by rw [hD.2], hb⟩
      · exact absurd hD.1 hn
    have HEN := Lib.hid fun W => encode_ok 5 0 nn Q W hok
    have hlow : lowOk nw0 p.t nn := by unfold lowOk; omega
    have HL := Lib.hid (lowL_nil nw0 p.t nn hlow)
    obtain ⟨l, hl, HFr⟩ := fragFacts (noDF p) HPO.out rfl nn hn68.1
    have hlp := hl.pos; have hll := hl.le
    unfold Pk.val at HFr
    dsimp only [noDF] at HFr
    clear HNP hca hne hok hD hQ hlow HMO
    generalize (⟨(menc 5 0 nn Q).toArray⟩ : ByteArray) = TT at *
    have Sp := cells9 Hp.out
    obtain ⟨⟨qp0, qp1, qp2, qp3, qp4, qp5, qp6, qp7, qp8⟩, zp0, zp1, zp2, zp3, zp4, zp5, zp6, zp7, zp8⟩ := Sp
    have lt_p := blk_lt Hp.out
    go_wp2_with fail
    refine (HNE.out _).mono ?_
    rintro e w3 ⟨rfl, hb⟩
    clear qp0 zp0 qp1 zp1 qp2 zp2 qp3 zp3 qp4 zp4 qp5 zp5 qp6 zp6 qp7 zp7 qp8 zp8
    have Hp' := Lib.hid (bblock hb Hp.out); clear Hp; have Hp := Hp'; clear Hp'
    have HB' := below_call HB hb; clear HB hb; have HB := HB'; clear HB'; have hz3 := HB.size
    have lt_p_3 := blk_lt Hp.out
    have Hm := Lib.hid (alloc_new' w3 (.cells #[.int .i64 5, .int .i64 0, .int .i64 nn, .string Q] 23) (w3.heap.size) (by simp))
    have Hp' := Lib.hid (block_alloc Hp.out (.cells #[.int .i64 5, .int .i64 0, .int .i64 nn, .string Q] 23)); clear Hp; have Hp := Hp'; clear Hp'
    have HB' := below_alloc (o := .cells #[.int .i64 5, .int .i64 0, .int .i64 nn, .string Q] 23) HB; clear HB; have HB := HB'; clear HB'
    have Sm := cells4 Hm.out
    obtain ⟨⟨qm0, qm1, qm2, qm3⟩, zm0, zm1, zm2, zm3⟩ := Sm
    have lt_m := blk_lt Hm.out
    go_wp2_with fail
    refine (HEN.out _).mono ?_
    rintro e w4 ⟨rfl, hb⟩
    clear qm0 zm0 qm1 zm1 qm2 zm2 qm3 zm3
    have Hp' := Lib.hid (bblock hb Hp.out); clear Hp; have Hp := Hp'; clear Hp'
    have Hm' := Lib.hid (bblock hb Hm.out); clear Hm; have Hm := Hm'; clear Hm'
    have HB' := below_call HB hb; clear HB hb; have HB := HB'; clear HB'; have hz4 := HB.size
    have lt_p_4 := blk_lt Hp.out
    have lt_m_4 := blk_lt Hm.out
    go_wp2_with fail
    refine (HDE.out _ (hg0.out.below HB)).mono ?_
    rintro e w5 ⟨rfl, hb⟩
    have Hp' := Lib.hid (bblock hb Hp.out); clear Hp; have Hp := Hp'; clear Hp'
    have Hm' := Lib.hid (bblock hb Hm.out); clear Hm; have Hm := Hm'; clear Hm'
    have HB' := below_call HB hb; clear HB hb; have HB := HB'; clear HB'; have hz5 := HB.size
    have lt_p_5 := blk_lt Hp.out
    have lt_m_5 := blk_lt Hm.out
    have Hn := Lib.hid (alloc_new' w5 (.cells #[.int .i64 5, .int .i64 0, .int .i64 nn, .string Q] 23) (w5.heap.size) (by simp))
    have Hp' := Lib.hid (block_alloc Hp.out (.cells #[.int .i64 5, .int .i64 0, .int .i64 nn, .string Q] 23)); clear Hp; have Hp := Hp'; clear Hp'
    have Hm' := Lib.hid (block_alloc Hm.out (.cells #[.int .i64 5, .int .i64 0, .int .i64 nn, .string Q] 23)); clear Hm; have Hm := Hm'; clear Hm'
    have HB' := below_alloc (o := .cells #[.int .i64 5, .int .i64 0, .int .i64 nn, .string Q] 23) HB; clear HB; have HB := HB'; clear HB'
    go_wp2_with fail
    generalize w5.alloc (.cells #[.int .i64 5, .int .i64 0, .int .i64 nn, .string Q] 23) = W7 at *
    clear HNE HEN HDE Hm
    refine (own_new _).mono ?_
    rintro e w8 ⟨rfl, hO⟩
    have hpl := blk_lt Hp.out; have hnl := blk_lt Hn.out
    have Hp8 := Lib.hid (own_blk hO Hp.out hpl); have Hn8 := Lib.hid (own_blk hO Hn.out hnl)
    have qp1 := (cell_of_block (k := 1) Hp8.out rfl).1; have qn2 := (cell_of_block (k := 2) Hn8.out rfl).1
    go_wp2_with fail
    refine (own_lower nw0 p.t nn hO).mono ?_
    rintro e w9 ⟨rfl, hO9⟩
    rw [HL.out.1]
    rw [HL.out.2] at hO9
    have HO9 := Lib.hid hO9
    clear hO9 hO qp1 qn2 Hn8 Hp8 HL
    have HPB : Hid (∀ W, Own W7.heap.size W7.heap.size [⟨p.t, nn, nw0⟩] W7 W → W.heap[w2.heap.size]? = some (.cells #[.int .i64 p.f, .int .i64 p.t, .int .i64 p.pr, .int .i64 p.ttl, .int .i64 p.id, .bool false, .bool p.mf, .int .i64 p.off, .string p.s] 31)) := Lib.hid (fun W h => own_blk h Hp.out hpl)
    have HSZ : Hid (∀ W, Own W7.heap.size W7.heap.size [⟨p.t, nn, nw0⟩] W7 W → Calls Tryd.prog 33 #[.pointer (some ⟨W7.heap.size, 0, none⟩), .int .i64 nw0, .int .i64 p.t, .int .i64 1024] W fun e w' => e = .returned (.int .i64 nn) ∧ Own W7.heap.size W7.heap.size [⟨p.t, nn, nw0⟩] W7 w') := Lib.hid fun W h => by
      have := own_size nw0 p.t 1024 h
      rw [sizeE_first, if_pos (by omega), show min 1024 nn = nn by omega] at this
      exact this
    go_upto_region 13 with fail
    have HO9d := Lib.hid (HO9.out.later (Below.refl w9.heap.size w9).drew)
    have HSA : Hid ((fun w' : World => w'.cell? ⟨w2.heap.size, 0, none⟩ = some (.int .i64 p.f) ∧ w'.cell? ⟨w2.heap.size, 1, none⟩ = some (.int .i64 p.t) ∧ w'.cell? ⟨w2.heap.size, 2, none⟩ = some (.int .i64 p.pr) ∧ w'.cell? ⟨w2.heap.size, 3, none⟩ = some (.int .i64 p.ttl) ∧ w'.cell? ⟨w2.heap.size, 4, none⟩ = some (.int .i64 p.id) ∧ w'.cell? ⟨w2.heap.size, 5, none⟩ = some (.bool false) ∧ w'.cell? ⟨w2.heap.size, 6, none⟩ = some (.bool p.mf) ∧ w'.cell? ⟨w2.heap.size, 7, none⟩ = some (.int .i64 p.off) ∧ w'.cell? ⟨w2.heap.size, 8, none⟩ = some (.string p.s)) w9.drew) := Lib.hid (cells9 (HPB.out _ HO9d.out)).1
    go_region_held3 (fun w' : World => w'.cell? ⟨w2.heap.size, 0, none⟩ = some (.int .i64 p.f) ∧ w'.cell? ⟨w2.heap.size, 1, none⟩ = some (.int .i64 p.t) ∧ w'.cell? ⟨w2.heap.size, 2, none⟩ = some (.int .i64 p.pr) ∧ w'.cell? ⟨w2.heap.size, 3, none⟩ = some (.int .i64 p.ttl) ∧ w'.cell? ⟨w2.heap.size, 4, none⟩ = some (.int .i64 p.id) ∧ w'.cell? ⟨w2.heap.size, 5, none⟩ = some (.bool false) ∧ w'.cell? ⟨w2.heap.size, 6, none⟩ = some (.bool p.mf) ∧ w'.cell? ⟨w2.heap.size, 7, none⟩ = some (.int .i64 p.off) ∧ w'.cell? ⟨w2.heap.size, 8, none⟩ = some (.string p.s)) ((first | with_reducible exact HSA.out | with_reducible exact HSB.out | with_reducible exact HSC.out))
      (first
        | (go_simp; go_at_call 33; (with_reducible refine (HSZ.out _ HO9d.out).mono ?_); rintro e w10 ⟨rfl, hO10⟩; have HO10 := Lib.hid hO10; have HSB : Hid ((fun w' : World => w'.cell? ⟨w2.heap.size, 0, none⟩ = some (.int .i64 p.f) ∧ w'.cell? ⟨w2.heap.size, 1, none⟩ = some (.int .i64 p.t) ∧ w'.cell? ⟨w2.heap.size, 2, none⟩ = some (.int .i64 p.pr) ∧ w'.cell? ⟨w2.heap.size, 3, none⟩ = some (.int .i64 p.ttl) ∧ w'.cell? ⟨w2.heap.size, 4, none⟩ = some (.int .i64 p.id) ∧ w'.cell? ⟨w2.heap.size, 5, none⟩ = some (.bool false) ∧ w'.cell? ⟨w2.heap.size, 6, none⟩ = some (.bool p.mf) ∧ w'.cell? ⟨w2.heap.size, 7, none⟩ = some (.int .i64 p.off) ∧ w'.cell? ⟨w2.heap.size, 8, none⟩ = some (.string p.s)) w10) := Lib.hid (cells9 (HPB.out _ HO10.out)).1; clear hO10)
        | (go_simp; go_at_call 35; (with_reducible refine (HFr.out _).mono ?_); rintro e w11 ⟨⟨g, cap, rfl, hg11, hrow⟩, hb11⟩; have HO11 := Lib.hid (HO10.out.later hb11); have Hrow := Lib.hid hrow; have HSC : Hid ((fun w' : World => w'.cell? ⟨w2.heap.size, 0, none⟩ = some (.int .i64 p.f) ∧ w'.cell? ⟨w2.heap.size, 1, none⟩ = some (.int .i64 p.t) ∧ w'.cell? ⟨w2.heap.size, 2, none⟩ = some (.int .i64 p.pr) ∧ w'.cell? ⟨w2.heap.size, 3, none⟩ = some (.int .i64 p.ttl) ∧ w'.cell? ⟨w2.heap.size, 4, none⟩ = some (.int .i64 p.id) ∧ w'.cell? ⟨w2.heap.size, 5, none⟩ = some (.bool false) ∧ w'.cell? ⟨w2.heap.size, 6, none⟩ = some (.bool p.mf) ∧ w'.cell? ⟨w2.heap.size, 7, none⟩ = some (.int .i64 p.off) ∧ w'.cell? ⟨w2.heap.size, 8, none⟩ = some (.string p.s)) w11) := Lib.hid (cells9 (HPB.out _ HO11.out)).1; clear hrow hb11))
    have Hp11 := Lib.hid (HPB.out _ HO11.out)
    have HB11 : Below w.heap.size w w11 := below_call HB HO11.out.below
    clear HSA HSB HSC HPB HSZ HFr HO9 HO9d HO10 HO11 Hp Hn HB
    have Hp := Hp11; clear Hp11; have HB := HB11; clear HB11
    have hL0 : ((l.length : Int) == 0) = false := beq_eq_false_iff_ne.2 (by omega)
    generalize hLn : l.length = Ln at *
    have HLn := Lib.hid hLn; clear hLn
    obtain ⟨pb, hpb⟩ : ∃ pb, w2.heap.size = pb := ⟨_, rfl⟩
    rw [hpb] at Hp ⊢
    clear hpb hpl hnl
    go_wp2_with fail
    go_loopw [19, 20] (fun a i wr => ∃ k : Nat, k ≤ Ln ∧ i = .int .i64 (k : Int) ∧ a = .string ⟨(catP (l.take k)).toArray⟩ ∧ PkRow wr g l ∧ wr.heap[pb]? = some (.cells #[.int .i64 p.f, .int .i64 p.t, .int .i64 p.pr, .int .i64 p.ttl, .int .i64 p.id, .bool false, .bool p.mf, .int .i64 p.off, .string p.s] 31) ∧ Below w.heap.size w wr) (fun _ i _ => Ln - (intOf i).toNat)
    case atStart => exact ⟨0, by omega, rfl, rfl, Hrow.out, Hp.out, HB⟩
    case round =>
      clear Hrow Hp HB
      obtain ⟨k, hk, rfl, rfl, Hrow, Hp, HB⟩ := hrel
      obtain ⟨wo, rfl⟩ : ∃ wo : World, wo = wr := ⟨_, rfl⟩
      have Hrow := Lib.hid Hrow; have Hp := Lib.hid Hp
      by_cases hlt : k < Ln
      · obtain ⟨m, s, hq, hok, hfit, hm, hcat⟩ := frag_at hl k (by rw [HLn.out]; exact hlt)
        have hdk : decide ((k : Int) < (Ln : Int)) = true := by simp; omega
        have hA : (catP (l.take k)).length ≤ 4000 := by have := hok; unfold Pk.ok VLen at this; dsimp only at this; omega
        have HQ := Lib.hid hq; clear hq hm
        generalize catP (l.take k) = A at *
        obtain ⟨r0, r1, r2, r3, r4, r5, r6, r7, r8⟩ := Hrow.out.cells k _ HQ.out
        have hgl := Hrow.out.lt
        obtain ⟨R, hR⟩ : ∃ R, encP ⟨p.f, p.t, p.pr, p.ttl, p.id, false, m, p.off + ((A.length : Nat) : Int), s⟩ = R := ⟨_, rfl⟩
        have hRn2 : (R.length : Int) = 20 + (s.size : Int) := by rw [← hR, encP_length]; show ((20 + s.size : Nat) : Int) = _; omega
        have HE : Hid (∀ W, Calls Tryd.prog 27 #[.agg #[.int .i64 p.f, .int .i64 p.t, .int .i64 p.pr, .int .i64 p.ttl, .int .i64 p.id, .bool false, .bool m, .int .i64 (p.off + ((A.length : Nat) : Int)), .string s]] W fun e w' => e = .returned (.tuple #[.string ⟨(encP ⟨p.f, p.t, p.pr, p.ttl, p.id, false, m, p.off + ((A.length : Nat) : Int), s⟩).toArray⟩, .int .i64 0]) ∧ Below W.heap.size W w') := Lib.hid fun W => Ip.Encode_ok p.f p.t p.pr p.ttl p.id false m (p.off + ((A.length : Nat) : Int)) s W hok
        rw [hR] at HE
        have hgt : decide (nn < (R.length : Int)) = false := by simp; omega
        have hR3 : (s.size : Int) ≤ 4000 := by have := hok; unfold Pk.ok VLen at this; dsimp only at this; omega
        clear hRn2 hR hok
        go_wp2_with fail
        clear r0 r1 r2 r3 r4 r5 r6 r7 r8 hgl
        refine (HE.out _).mono ?_
        rintro e w6 ⟨rfl, hb⟩
        have Hp' := Lib.hid (bblock hb Hp.out); clear Hp; have Hp := Hp'; clear Hp'
        have Hrow' := Lib.hid (Hrow.out.below hb); clear Hrow; have Hrow := Hrow'; clear Hrow'
        have HB' := below_call HB hb; clear HB hb; have HB := HB'; clear HB'; have hz6 := HB.size
        have lt_p_6 := blk_lt Hp.out
        obtain ⟨r0, r1, r2, r3, r4, r5, r6, r7, r8⟩ := Hrow.out.cells k _ HQ.out
        have hgl := Hrow.out.lt
        have Sp := cells9 Hp.out
        obtain ⟨⟨qp0, qp1, qp2, qp3, qp4, qp5, qp6, qp7, qp8⟩, zp0, zp1, zp2, zp3, zp4, zp5, zp6, zp7, zp8⟩ := Sp
        have lt_p := blk_lt Hp.out
        have g1 : IntKind.i64.wrap (p.off + (A.length : Int)) = p.off + (A.length : Int) := IntWalk.i64_in _ (by omega)
        have g2 : IntKind.i64.wrap ((k : Int) + 1) = (k : Int) + 1 := IntWalk.i64_in _ (by omega)
        have g3 : (0 : Int) ≤ (k : Int) := by omega
        have g4 : (k : Int) < (Ln : Int) := by omega
        have g5 : (p.off + (A.length : Int) != p.off + (A.length : Int)) = false := by simp
        go_upto_region 19 with fail
        go_quiet (fail)
        have hsum : ¬ 9223372036854775807 < A.length + s.size := by omega
        go_wp2_with fail
        all_goals first | (exfalso; omega) | skip
        go_roundw
        case rel => exact ⟨k + 1, by omega, by go_num, by rw [hcat.out, Ip.ba_append_s], Hrow.out.drewN _, Hp.out, below_drewN HB _⟩
        case measure => simp [intOf]; omega
      · have hkl : k = Ln := by omega
        subst hkl
        have hAll : (⟨(catP (l.take k)).toArray⟩ : ByteArray) = p.s := by rw [← HLn.out, List.take_length, hl.cat]; exact (ba_self p.s).symm
        rw [hAll]
        have Sp := cells9 Hp.out
        obtain ⟨⟨qp0, qp1, qp2, qp3, qp4, qp5, qp6, qp7, qp8⟩, zp0, zp1, zp2, zp3, zp4, zp5, zp6, zp7, zp8⟩ := Sp
        have lt_p := blk_lt Hp.out
        have hd0 : decide ((k : Int) < (k : Int)) = false := by simp
        clear hAll
        go_wp2_with fail
        all_goals first | (exfalso; omega) | skip
        go_ret
        exact ⟨rfl, HB⟩
end Go.Proofs.YtmcfllogcmnnoaaDoor.Ic
