/-
  The walk of the law IPRefragmentation.
-/
import Derived.Test.YtabfihknhbfjeaaLaw06f
import Derived.Deep.DeepCutAuto
import Derived.Outline
namespace Go.Proofs.Ytabfihknhbfjeaa.Ip
open Go.RowKit Go.Proofs.Ytabfihknhbfjeaa.Wire Go.Proofs.Ytabfihknhbfjeaa.Gen

set_option maxRecDepth 100000 in
set_option maxHeartbeats 4000000 in
theorem rf_walk (x0 x1 x2 x3 x4 x5 x6 x7 one two : Int) (xs : ByteArray) (w : World) (hone : In64 one) (htwo : In64 two)
    (HX : Hid (∀ w, Calls Try.prog 9 #[.agg #[.int .i64 x0, .int .i64 x1, .int .i64 x2, .int .i64 x3, .int .i64 x4, .int .i64 x5, .int .i64 x6, .int .i64 x7, .string xs]] w fun e w' => (∃ p : Pk, p.ok ∧ p.s.size ≤ 300 ∧ e = .returned (.agg #[.int .i64 p.f, .int .i64 p.t, .int .i64 p.pr, .int .i64 p.ttl, .int .i64 p.id, .bool p.df, .bool p.mf, .int .i64 p.off, .string p.s])) ∧ Below w.heap.size w w')) :
    Calls Try.prog 7 #[.agg #[.int .i64 x0, .int .i64 x1, .int .i64 x2, .int .i64 x3, .int .i64 x4, .int .i64 x5, .int .i64 x6, .int .i64 x7, .string xs], .int .i64 one, .int .i64 two] w fun e w' => e = .returned (.bool true) ∧ Below w.heap.size w w' := by
  go_enter Try.func7, Try.ntmps7
  have HB := Below.refl w.heap.size w
  have Hx := Lib.hid (alloc_new' w (.cells #[.int .i64 x0, .int .i64 x1, .int .i64 x2, .int .i64 x3, .int .i64 x4, .int .i64 x5, .int .i64 x6, .int .i64 x7, .string xs] 23) (w.heap.size) (by simp))
  have HB' := below_alloc (o := .cells #[.int .i64 x0, .int .i64 x1, .int .i64 x2, .int .i64 x3, .int .i64 x4, .int .i64 x5, .int .i64 x6, .int .i64 x7, .string xs] 23) HB; clear HB; have HB := HB'; clear HB'
  go_wp2_with fail
  refine (sane_any _).mono ?_
  rintro e w1 ⟨rfl, hb⟩
  have Hx' := Lib.hid (bblock hb Hx.out); clear Hx; have Hx := Hx'; clear Hx'
  have HB' := below_call HB hb; clear HB hb; have HB := HB'; clear HB'; have hz1 := HB.size
  have lt_x_1 := blk_lt Hx.out
  have Sx := cells9 Hx.out
  obtain ⟨⟨qx0, qx1, qx2, qx3, qx4, qx5, qx6, qx7, qx8⟩, zx0, zx1, zx2, zx3, zx4, zx5, zx6, zx7, zx8⟩ := Sx
  have lt_x := blk_lt Hx.out
  go_wp2_with fail
  refine (HX.out _).mono ?_
  rintro e w2 ⟨⟨p, hp, hps, rfl⟩, hb⟩
  clear qx0 zx0 qx1 zx1 qx2 zx2 qx3 zx3 qx4 zx4 qx5 zx5 qx6 zx6 qx7 zx7 qx8 zx8
  have Hx' := Lib.hid (bblock hb Hx.out); clear Hx; have Hx := Hx'; clear Hx'
  have HB' := below_call HB hb; clear HB hb; have HB := HB'; clear HB'; have hz2 := HB.size
  have lt_x_2 := blk_lt Hx.out
  clear Hx
  have Hp := Lib.hid (alloc_new' w2 (.cells #[.int .i64 p.f, .int .i64 p.t, .int .i64 p.pr, .int .i64 p.ttl, .int .i64 p.id, .bool false, .bool p.mf, .int .i64 p.off, .string p.s] 26) (w2.heap.size) (by simp))
  have HB' := below_alloc (o := .cells #[.int .i64 p.f, .int .i64 p.t, .int .i64 p.pr, .int .i64 p.ttl, .int .i64 p.id, .bool false, .bool p.mf, .int .i64 p.off, .string p.s] 26) HB; clear HB; have HB := HB'; clear HB'
  have hnb := pick_lt one 300 (by omega)
  have hmb := pick_lt two 300 (by omega)
  have HN := Lib.hid fun w => pick_any one 300 w hone.1 hone.2 (by omega) (by omega)
  have HM := Lib.hid fun w => pick_any two 300 w htwo.1 htwo.2 (by omega) (by omega)
  generalize pick one 300 = n0 at *
  generalize pick two 300 = m0 at *
  go_wp2_with fail
  refine (HN.out _).mono ?_
  rintro e w' ⟨rfl, rfl⟩
  go_wp2_with fail
  refine (HM.out _).mono ?_
  rintro e w' ⟨rfl, rfl⟩
  obtain ⟨l, hl, HFr⟩ := fragFacts (noDF p) (noDF_ok p hp) rfl (68 + n0) (by omega)
  have hpo : 0 ≤ p.off ∧ p.off ≤ 4000 := by have := hp; unfold Pk.ok VLen at this; omega
  have hlp := hl.pos; have hll := hl.le
  dsimp only [Pk.val, noDF] at HFr
  have Sp := cells9 Hp.out
  obtain ⟨⟨qp0, qp1, qp2, qp3, qp4, qp5, qp6, qp7, qp8⟩, zp0, zp1, zp2, zp3, zp4, zp5, zp6, zp7, zp8⟩ := Sp
  have lt_p := blk_lt Hp.out
  go_wp2_with fail
  clear qp0 zp0 qp1 zp1 qp2 zp2 qp3 zp3 qp4 zp4 qp5 zp5 qp6 zp6 qp7 zp7 qp8 zp8
  generalize hnn : 68 + n0 = nn at *
  generalize hmm : 68 + m0 = mm at *
  have hn68 : 68 ≤ nn := by omega
  have hn368 : nn ≤ 368 := by omega
  have hm68 : 68 ≤ mm := by omega
  have hm368 : mm ≤ 368 := by omega
  clear hnn hmm
  refine (HFr.out _).mono ?_
  rintro e w3 ⟨⟨g, cap, rfl, hg, Hrow⟩, hb⟩
  have Hp' := Lib.hid (bblock hb Hp.out); clear Hp; have Hp := Hp'; clear Hp'
  have HB' := below_call HB hb; clear HB hb; have HB := HB'; clear HB'; have hz3 := HB.size
  have lt_p_3 := blk_lt Hp.out
  have Hrow := Lib.hid Hrow
  generalize hLn : l.length = Ln at *
  have HLn := Lib.hid hLn; clear hLn
  go_wp2_with fail
  go_loopw [13, 14, 15] (fun a c i wr => ∃ k c0 : Nat, k ≤ Ln ∧ i = .int .i64 (k : Int) ∧ a = .string ⟨(catP (l.take k)).toArray⟩ ∧ c = .int .i64 (c0 : Int) ∧ c0 ≤ 4001 * k ∧ (nn ≤ mm → c0 = k) ∧ PkRow wr g l ∧ wr.heap[w2.heap.size]? = some (.cells #[.int .i64 p.f, .int .i64 p.t, .int .i64 p.pr, .int .i64 p.ttl, .int .i64 p.id, .bool false, .bool p.mf, .int .i64 p.off, .string p.s] 26) ∧ Below w.heap.size w wr) (fun _ _ i _ => Ln - (intOf i).toNat)
  case atStart => exact ⟨0, 0, by omega, rfl, rfl, rfl, by omega, fun _ => rfl, Hrow.out, Hp.out, HB⟩
  case round =>
    clear Hrow Hp HB
    obtain ⟨k, c0, hk, rfl, rfl, rfl, hc0, hcc, Hrow, Hp, HB⟩ := hrel
    obtain ⟨wo, rfl⟩ : ∃ wo : World, wo = wr := ⟨_, rfl⟩
    have Hrow := Lib.hid Hrow; have Hp := Lib.hid Hp; have Hcc := Lib.hid hcc; clear hcc
    by_cases hlt : k < Ln
    · obtain ⟨m, s, hq, hok, hfit, hm, hcat⟩ := frag_at hl k (by rw [HLn.out]; exact hlt)
      have hdk : decide ((k : Int) < (Ln : Int)) = true := by simp; omega
      have hA : (catP (l.take k)).length ≤ 4000 := by have := hok; unfold Pk.ok VLen at this; dsimp only at this; omega
      have hAs : (catP (l.take k)).length + s.size ≤ 4000 := by have := hok; unfold Pk.ok VLen at this; dsimp only at this; omega
      have HQ := Lib.hid hq; clear hq
      generalize catP (l.take k) = A at *
      obtain ⟨r0, r1, r2, r3, r4, r5, r6, r7, r8⟩ := Hrow.out.cells k _ HQ.out
      have hgl := Hrow.out.lt
      obtain ⟨l2, hl2, HF2⟩ := fragFacts _ hok rfl mm (by omega)
      have hl2p := hl2.pos; have hl2l := hl2.le
      dsimp only [Pk.val] at HF2
      go_wp2_with fail
      clear r0 r1 r2 r3 r4 r5 r6 r7 r8 hgl
      refine (HF2.out _).mono ?_
      rintro e w4 ⟨⟨g2, cap2, rfl, hg2, Hrow2⟩, hb⟩
      have Hp' := Lib.hid (bblock hb Hp.out); clear Hp; have Hp := Hp'; clear Hp'
      have Hrow' := Lib.hid (Hrow.out.below hb); clear Hrow; have Hrow := Hrow'; clear Hrow'
      have HB' := below_call HB hb; clear HB hb; have HB := HB'; clear HB'; have hz4 := HB.size
      have lt_p_4 := blk_lt Hp.out
      have Hrow2 := Lib.hid Hrow2
      have hone2 : Hid (l2.length = 1 ↔ (s.size : Int) + 20 ≤ mm) := Lib.hid hl2.one
      generalize hL2 : l2.length = L2 at *
      have HL2 := Lib.hid hL2; clear hL2
      go_wp2_with fail
      go_loopw [13, 14, 18] (fun a c i wr => ∃ j : Nat, j ≤ L2 ∧ i = .int .i64 (j : Int) ∧ a = .string ⟨(A ++ catP (l2.take j)).toArray⟩ ∧ c = .int .i64 ((c0 + j : Nat) : Int) ∧ PkRow wr g l ∧ PkRow wr g2 l2 ∧ wr.heap[w2.heap.size]? = some (.cells #[.int .i64 p.f, .int .i64 p.t, .int .i64 p.pr, .int .i64 p.ttl, .int .i64 p.id, .bool false, .bool p.mf, .int .i64 p.off, .string p.s] 26) ∧ Below w.heap.size w wr) (fun _ _ i _ => L2 - (intOf i).toNat)
      case atStart => exact ⟨0, by omega, rfl, by simp [catP], rfl, Hrow.out, Hrow2.out, Hp.out, HB⟩
      case round =>
        clear Hrow Hrow2 Hp HB
        obtain ⟨j, hj, rfl, rfl, rfl, Hrow, Hrow2, Hp, HB⟩ := hrel
        obtain ⟨wi, rfl⟩ : ∃ wi : World, wi = wr := ⟨_, rfl⟩
        have Hrow := Lib.hid Hrow; have Hrow2 := Lib.hid Hrow2; have Hp := Lib.hid Hp
        by_cases hjt : j < L2
        · obtain ⟨m2, s2, hq2, hok2, hfit2, hm2, hcat2⟩ := frag_at (p := ⟨p.f, p.t, p.pr, p.ttl, p.id, false, m, p.off + (A.length : Int), s⟩) hl2 j (by rw [HL2.out]; exact hjt)
          dsimp only at hq2 hok2
          have hdj : decide ((j : Int) < (L2 : Int)) = true := by simp; omega
          have hA2 : A.length + (catP (l2.take j)).length + s2.size ≤ 4000 := by have := hok2; unfold Pk.ok VLen at this; dsimp only at this; omega
          have HQ2 := Lib.hid hq2; clear hq2
          generalize catP (l2.take j) = A2 at *
          obtain ⟨r0, r1, r2, r3, r4, r5, r6, r7, r8⟩ := Hrow2.out.cells j _ HQ2.out
          have hgl := Hrow2.out.lt
          have Sp := cells9 Hp.out
          obtain ⟨⟨qp0, qp1, qp2, qp3, qp4, qp5, qp6, qp7, qp8⟩, zp0, zp1, zp2, zp3, zp4, zp5, zp6, zp7, zp8⟩ := Sp
          have lt_p := blk_lt Hp.out
          dsimp only at r7 r8
          have hoff : p.off + (A.length : Int) + (A2.length : Int) = p.off + ((A ++ A2).length : Int) := by rw [List.length_append]; omega
          rw [hoff] at r7; clear hoff
          have hB : (A ++ A2).length + s2.size ≤ 4000 := by rw [List.length_append]; omega
          have HA2 : Hid (A ++ catP (l2.take (j + 1)) = (A ++ A2) ++ s2.data.toList) := Lib.hid (by rw [hcat2.out, List.append_assoc])
          generalize A ++ A2 = B at *
          have g1 : IntKind.i64.wrap (p.off + (B.length : Int)) = p.off + (B.length : Int) := IntWalk.i64_in _ (by omega)
          have g2_ : IntKind.i64.wrap ((s2.size : Int) + 20) = (s2.size : Int) + 20 := IntWalk.i64_in _ (by omega)
          have g3 : (0 : Int) ≤ (j : Int) := by omega
          have g4 : (j : Int) < (L2 : Int) := by omega
          have g5 : decide (mm < (s2.size : Int) + 20) = false := by simp; omega
          have hcnt : c0 + j ≤ 100000000 := by have := Nat.mul_le_mul_left 4001 hk; omega
          go_upto_region 18 with fail
          go_cut [79] (fun s79 wx => s79 = .bool false ∧ PkRow wx g l ∧ PkRow wx g2 l2 ∧ wx.heap[w2.heap.size]? = some (.cells #[.int .i64 p.f, .int .i64 p.t, .int .i64 p.pr, .int .i64 p.ttl, .int .i64 p.id, .bool false, .bool p.mf, .int .i64 p.off, .string p.s] 26) ∧ Below w.heap.size w wx)
          case first =>
            refine wp_region_quiet_big (by kernel_rfl) (by kernel_rfl) (by kernel_rfl) (by kernel_rfl) ?_
            repeat (first | go_big_quiet_step (fail) | quiet_step (fail))
            refine wpQuiet_nil ?_
            intro _ hw'
            obtain ⟨nq, hw''⟩ := hw'
            subst hw''
            go_wp2_with fail
            go_meet
            exact ⟨rfl, Hrow.out.drewN _, Hrow2.out.drewN _, Hp.out, below_drewN HB _⟩
          case rest =>
            clear qp0 zp0 qp1 zp1 qp2 zp2 qp3 zp3 qp4 zp4 qp5 zp5 qp6 zp6 qp7 zp7 qp8 zp8 r0 r1 r2 r3 r4 r5 r6 r7 r8 hgl
            clear Hrow Hrow2 Hp HB g1 g2_ g5
            obtain ⟨rfl, Hrow, Hrow2, Hp, HB⟩ := hcut
            have Hrow := Lib.hid Hrow; have Hrow2 := Lib.hid Hrow2; have Hp := Lib.hid Hp
            obtain ⟨r0, r1, r2, r3, r4, r5, r6, r7, r8⟩ := Hrow2.out.cells j _ HQ2.out
            have hgl := Hrow2.out.lt
            have hsum : ¬ 9223372036854775807 < B.length + s2.size := by omega
            go_wp2_with fail
            clear r0 r1 r2 r3 r4 r5 r6 r7 r8 hgl
            go_roundw
            case rel => exact ⟨j + 1, by omega, by go_num, by rw [HA2.out, ba_append_s], by go_num, Hrow.out, Hrow2.out, Hp.out, HB⟩
            case measure => simp [intOf]; omega
        · have hjl : j = L2 := by omega
          subst hjl
          have hAll : A ++ catP (l2.take j) = catP (l.take (k + 1)) := by rw [← HL2.out, List.take_length, hl2.cat, hcat.out]
          rw [hAll]; clear hAll
          have hd0 : decide ((j : Int) < (j : Int)) = false := by simp
          have hmul := Nat.mul_le_mul_left 4001 hk
          have hkk : c0 + j ≤ 4001 * (k + 1) := by omega
          have hcj : nn ≤ mm → c0 + j = k + 1 := fun h => by have h1 := Hcc.out h; have h2 := hone2.out.2 (by omega); omega
          have HCJ := Lib.hid hcj; clear hcj
          go_wp2_with fail
          go_roundw
          case rel => exact ⟨k + 1, c0 + j, by omega, by go_num, rfl, rfl, hkk, HCJ.out, Hrow.out, Hp.out, HB⟩
          case measure => simp [intOf]; omega
    · have hkl : k = Ln := by omega
      subst hkl
      have hAll : (⟨(catP (l.take k)).toArray⟩ : ByteArray) = p.s := by rw [← HLn.out, List.take_length, hl.cat]; exact (ba_self p.s).symm
      rw [hAll]; clear hAll
      have Sp := cells9 Hp.out
      obtain ⟨⟨qp0, qp1, qp2, qp3, qp4, qp5, qp6, qp7, qp8⟩, zp0, zp1, zp2, zp3, zp4, zp5, zp6, zp7, zp8⟩ := Sp
      have lt_p := blk_lt Hp.out
      have hd0 : decide ((k : Int) < (k : Int)) = false := by simp
      by_cases hc : mm < nn
      · have hc1 : decide (mm < nn) = true := decide_eq_true hc
        go_wp2_with fail
        go_ret
        exact ⟨rfl, HB⟩
      · have hc1 : decide (mm < nn) = false := decide_eq_false hc
        have hc2 := Hcc.out (by omega)
        subst hc2
        go_wp2_with fail
        go_ret
        exact ⟨rfl, HB⟩
end Go.Proofs.Ytabfihknhbfjeaa.Ip
