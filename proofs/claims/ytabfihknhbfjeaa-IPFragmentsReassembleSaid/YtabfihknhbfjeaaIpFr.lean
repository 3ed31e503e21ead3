/-
  The walk of the law IPFragmentsReassemble.
-/
import Derived.Test.YtabfihknhbfjeaaLaw06f
import Derived.Deep.DeepCutAuto
import Derived.Outline
namespace Go.Proofs.Ytabfihknhbfjeaa.Ip
open Go.RowKit Go.Proofs.Ytabfihknhbfjeaa.Wire Go.Proofs.Ytabfihknhbfjeaa.Gen

set_option maxRecDepth 100000 in
set_option maxHeartbeats 4000000 in
theorem fr_walk (x0 x1 x2 x3 x4 x5 x6 x7 size : Int) (xs : ByteArray) (w : World) (hsz : In64 size)
    (HX : Hid (∀ w, Calls Try.prog 9 #[.agg #[.int .i64 x0, .int .i64 x1, .int .i64 x2, .int .i64 x3, .int .i64 x4, .int .i64 x5, .int .i64 x6, .int .i64 x7, .string xs]] w fun e w' => (∃ p : Pk, p.ok ∧ p.s.size ≤ 300 ∧ e = .returned (.agg #[.int .i64 p.f, .int .i64 p.t, .int .i64 p.pr, .int .i64 p.ttl, .int .i64 p.id, .bool p.df, .bool p.mf, .int .i64 p.off, .string p.s])) ∧ Below w.heap.size w w')) :
    Calls Try.prog 6 #[.agg #[.int .i64 x0, .int .i64 x1, .int .i64 x2, .int .i64 x3, .int .i64 x4, .int .i64 x5, .int .i64 x6, .int .i64 x7, .string xs], .int .i64 size] w fun e w' => e = .returned (.bool true) ∧ Below w.heap.size w w' := by
  go_enter Try.func6, Try.ntmps6
  have HB := Below.refl w.heap.size w
  have Hx := Lib.hid (alloc_new' w (.cells #[.int .i64 x0, .int .i64 x1, .int .i64 x2, .int .i64 x3, .int .i64 x4, .int .i64 x5, .int .i64 x6, .int .i64 x7, .string xs] 23) (w.heap.size) (by simp))
  have HB' := below_alloc (o := .cells #[.int .i64 x0, .int .i64 x1, .int .i64 x2, .int .i64 x3, .int .i64 x4, .int .i64 x5, .int .i64 x6, .int .i64 x7, .string xs] 23) HB; clear HB; have HB := HB'; clear HB'
  go_wp2_with fail
  refine (sane_any _).mono ?_
  rintro e w1 ⟨rfl, hb⟩
  have Hx' := Lib.hid (bblock hb Hx.out); clear Hx; have Hx := Hx'; clear Hx'
  have HB' := below_call HB hb; clear HB hb; have HB := HB'; clear HB'; have hz1 := HB.size
  have lt_x_1 := blk_lt Hx.out
  have Sx := cells9 Hx.out
  obtain ⟨⟨qx0, qx1, qx2, qx3, qx4, qx5, qx6, qx7, qx8⟩, zx0, zx1, zx2, zx3, zx4, zx5, zx6, zx7, zx8⟩ := Sx
  have lt_x := blk_lt Hx.out
  go_wp2_with fail
  refine (HX.out _).mono ?_
  rintro e w2 ⟨⟨p, hp, hps, rfl⟩, hb⟩
  clear qx0 zx0 qx1 zx1 qx2 zx2 qx3 zx3 qx4 zx4 qx5 zx5 qx6 zx6 qx7 zx7 qx8 zx8
  have Hx' := Lib.hid (bblock hb Hx.out); clear Hx; have Hx := Hx'; clear Hx'
  have HB' := below_call HB hb; clear HB hb; have HB := HB'; clear HB'; have hz2 := HB.size
  have lt_x_2 := blk_lt Hx.out
  clear Hx
  have Hp := Lib.hid (alloc_new' w2 (.cells #[.int .i64 p.f, .int .i64 p.t, .int .i64 p.pr, .int .i64 p.ttl, .int .i64 p.id, .bool false, .bool p.mf, .int .i64 p.off, .string p.s] 26) (w2.heap.size) (by simp))
  have HB' := below_alloc (o := .cells #[.int .i64 p.f, .int .i64 p.t, .int .i64 p.pr, .int .i64 p.ttl, .int .i64 p.id, .bool false, .bool p.mf, .int .i64 p.off, .string p.s] 26) HB; clear HB; have HB := HB'; clear HB'
  have hnb := pick_lt size 300 (by omega)
  have HN := Lib.hid fun w => pick_any size 300 w hsz.1 hsz.2 (by omega) (by omega)
  generalize pick size 300 = n0 at *
  go_wp2_with fail
  refine (HN.out _).mono ?_
  rintro e w' ⟨rfl, rfl⟩
  obtain ⟨l, hl, HFr⟩ := fragFacts (noDF p) (noDF_ok p hp) rfl (68 + n0) (by omega)
  have hpo : 0 ≤ p.off ∧ p.off ≤ 4000 := by have := hp; unfold Pk.ok VLen at this; omega
  have hlp := hl.pos; have hll := hl.le
  dsimp only [Pk.val, noDF] at HFr
  have Sp := cells9 Hp.out
  obtain ⟨⟨qp0, qp1, qp2, qp3, qp4, qp5, qp6, qp7, qp8⟩, zp0, zp1, zp2, zp3, zp4, zp5, zp6, zp7, zp8⟩ := Sp
  have lt_p := blk_lt Hp.out
  go_wp2_with fail
  clear qp0 zp0 qp1 zp1 qp2 zp2 qp3 zp3 qp4 zp4 qp5 zp5 qp6 zp6 qp7 zp7 qp8 zp8
  generalize hnn : 68 + n0 = nn at *
  have hn68 : 68 ≤ nn := by omega
  have hn368 : nn ≤ 368 := by omega
  clear hnn
  refine (HFr.out _).mono ?_
  rintro e w3 ⟨⟨g, cap, rfl, hg, Hrow⟩, hb⟩
  have Hp' := Lib.hid (bblock hb Hp.out); clear Hp; have Hp := Hp'; clear Hp'
  have HB' := below_call HB hb; clear HB hb; have HB := HB'; clear HB'; have hz3 := HB.size
  have lt_p_3 := blk_lt Hp.out
  have Hrow := Lib.hid Hrow
  have hL0 : ((l.length : Int) == 0) = false := beq_eq_false_iff_ne.2 (by omega)
  generalize hLn : l.length = Ln at *
  have HLn := Lib.hid hLn; clear hLn
  go_wp2_with fail
  go_loopw [10, 11] (fun a i wr => ∃ k : Nat, k ≤ Ln ∧ i = .int .i64 (k : Int) ∧ a = .string ⟨(catP (l.take k)).toArray⟩ ∧ PkRow wr g l ∧ wr.heap[w2.heap.size]? = some (.cells #[.int .i64 p.f, .int .i64 p.t, .int .i64 p.pr, .int .i64 p.ttl, .int .i64 p.id, .bool false, .bool p.mf, .int .i64 p.off, .string p.s] 26) ∧ Below w.heap.size w wr) (fun _ i _ => Ln - (intOf i).toNat)
  case atStart => exact ⟨0, by omega, rfl, rfl, Hrow.out, Hp.out, HB⟩
  case round =>
    clear Hrow Hp HB
    obtain ⟨k, hk, rfl, rfl, Hrow, Hp, HB⟩ := hrel
    obtain ⟨wo, rfl⟩ : ∃ wo : World, wo = wr := ⟨_, rfl⟩
    have Hrow := Lib.hid Hrow; have Hp := Lib.hid Hp
    by_cases hlt : k < Ln
    · obtain ⟨m, s, hq, hok, hfit, hm, hcat⟩ := frag_at hl k (by rw [HLn.out]; exact hlt)
      have hdk : decide ((k : Int) < (Ln : Int)) = true := by simp; omega
      have hA : (catP (l.take k)).length ≤ 4000 := by have := hok; unfold Pk.ok VLen at this; dsimp only at this; omega
      have HQ := Lib.hid hq; clear hq
      generalize catP (l.take k) = A at *
      obtain ⟨r0, r1, r2, r3, r4, r5, r6, r7, r8⟩ := Hrow.out.cells k _ HQ.out
      have hgl := Hrow.out.lt
      obtain ⟨R, hR1, hR2, hRn, HE, -, -, -, -, -⟩ := rtFacts _ hok
      dsimp only at hRn HE hfit
      have hRn2 : (R.length : Int) = 20 + (s.size : Int) := bne_eq_false_iff_eq.1 hRn.out
      have hgt : decide (nn < (R.length : Int)) = false := by simp; omega
      have hR3 : (s.size : Int) ≤ 4000 := by omega
      clear hRn hRn2
      go_wp2_with fail
      clear r0 r1 r2 r3 r4 r5 r6 r7 r8 hgl
      refine (HE.out _).mono ?_
      rintro e w4 ⟨rfl, hb⟩
      have Hp' := Lib.hid (bblock hb Hp.out); clear Hp; have Hp := Hp'; clear Hp'
      have Hrow' := Lib.hid (Hrow.out.below hb); clear Hrow; have Hrow := Hrow'; clear Hrow'
      have HB' := below_call HB hb; clear HB hb; have HB := HB'; clear HB'; have hz4 := HB.size
      have lt_p_4 := blk_lt Hp.out
      obtain ⟨r0, r1, r2, r3, r4, r5, r6, r7, r8⟩ := Hrow.out.cells k _ HQ.out
      have hgl := Hrow.out.lt
      have Sp := cells9 Hp.out
      obtain ⟨⟨qp0, qp1, qp2, qp3, qp4, qp5, qp6, qp7, qp8⟩, zp0, zp1, zp2, zp3, zp4, zp5, zp6, zp7, zp8⟩ := Sp
      have lt_p := blk_lt Hp.out
      have g1 : IntKind.i64.wrap (p.off + (A.length : Int)) = p.off + (A.length : Int) := IntWalk.i64_in _ (by omega)
      have g2 : IntKind.i64.wrap ((k : Int) + 1) = (k : Int) + 1 := IntWalk.i64_in _ (by omega)
      have g3 : (0 : Int) ≤ (k : Int) := by omega
      have g4 : (k : Int) < (Ln : Int) := by omega
      go_upto_region 13 with fail
      go_cut [86] (fun s86 wx => s86 = .bool false ∧ PkRow wx g l ∧ wx.heap[w2.heap.size]? = some (.cells #[.int .i64 p.f, .int .i64 p.t, .int .i64 p.pr, .int .i64 p.ttl, .int .i64 p.id, .bool false, .bool p.mf, .int .i64 p.off, .string p.s] 26) ∧ Below w.heap.size w wx)
      case first =>
        have hmo := hm.out; clear hm
        generalize p.mf = pm at *
        have hcase : (pm = true ∧ m = true) ∨ (pm = false ∧ m = true ∧ decide ((k : Int) + 1 < (Ln : Int)) = true) ∨ (pm = false ∧ m = false ∧ decide ((k : Int) + 1 < (Ln : Int)) = false) := by
          subst hmo; rw [HLn.out]; cases pm
          · right; by_cases c : k + 1 < Ln
            · left; refine ⟨rfl, by simp [c], by simp; omega⟩
            · right; refine ⟨rfl, by simp [c], by simp; omega⟩
          · left; exact ⟨rfl, rfl⟩
        clear hmo
        rcases hcase with ⟨rfl, rfl⟩ | ⟨rfl, rfl, hc⟩ | ⟨rfl, rfl, hc⟩
        all_goals
          refine wp_region_quiet_big (by kernel_rfl) (by kernel_rfl) (by kernel_rfl) (by kernel_rfl) ?_
          repeat (first | go_big_quiet_step (fail) | quiet_step (fail))
          refine wpQuiet_nil ?_
          intro _ hw'
          obtain ⟨nq, hw''⟩ := hw'
          subst hw''
          go_wp2_with fail
          go_meet
          exact ⟨rfl, Hrow.out.drewN _, Hp.out, below_drewN HB _⟩
      case rest =>
        clear qp0 zp0 qp1 zp1 qp2 zp2 qp3 zp3 qp4 zp4 qp5 zp5 qp6 zp6 qp7 zp7 qp8 zp8
        clear r0 r1 r2 r3 r4 r5 r6 r7 r8 hgl
        clear Hrow Hp HB g1 hm
        obtain ⟨rfl, Hrow, Hp, HB⟩ := hcut
        have Hrow := Lib.hid Hrow; have Hp := Lib.hid Hp
        obtain ⟨r0, r1, r2, r3, r4, r5, r6, r7, r8⟩ := Hrow.out.cells k _ HQ.out
        have hgl := Hrow.out.lt
        have Sp := cells9 Hp.out
        obtain ⟨⟨qp0, qp1, qp2, qp3, qp4, qp5, qp6, qp7, qp8⟩, zp0, zp1, zp2, zp3, zp4, zp5, zp6, zp7, zp8⟩ := Sp
        have lt_p := blk_lt Hp.out
        have hsum : ¬ 9223372036854775807 < A.length + s.size := by omega
        go_wp2_with fail
        clear qp0 zp0 qp1 zp1 qp2 zp2 qp3 zp3 qp4 zp4 qp5 zp5 qp6 zp6 qp7 zp7 qp8 zp8
        clear r0 r1 r2 r3 r4 r5 r6 r7 r8 hgl
        go_roundw
        case rel => exact ⟨k + 1, by omega, by go_num, by rw [hcat.out, ba_append_s], Hrow.out.alloc _, block_alloc Hp.out _, below_alloc HB⟩
        case measure => simp [intOf]; omega
    · have hkl : k = Ln := by omega
      subst hkl
      have hAll : (⟨(catP (l.take k)).toArray⟩ : ByteArray) = p.s := by rw [← HLn.out, List.take_length, hl.cat]; exact (ba_self p.s).symm
      rw [hAll]
      have Sp := cells9 Hp.out
      obtain ⟨⟨qp0, qp1, qp2, qp3, qp4, qp5, qp6, qp7, qp8⟩, zp0, zp1, zp2, zp3, zp4, zp5, zp6, zp7, zp8⟩ := Sp
      have lt_p := blk_lt Hp.out
      have hone := hl.one; rw [HLn.out] at hone
      have hd0 : decide ((k : Int) < (k : Int)) = false := by simp
      have hw : IntKind.i64.wrap ((p.s.size : Int) + 20) = (p.s.size : Int) + 20 := IntWalk.i64_in _ (by omega)
      have hb : (((k : Int) == 1) = true ∧ decide ((p.s.size : Int) + 20 ≤ nn) = true) ∨ (((k : Int) == 1) = false ∧ decide ((p.s.size : Int) + 20 ≤ nn) = false) := by
        by_cases c : k = 1
        · left; exact ⟨beq_iff_eq.2 (by omega), decide_eq_true (hone.1 c)⟩
        · right; exact ⟨beq_eq_false_iff_ne.2 (by omega), decide_eq_false (fun q => c (hone.2 q))⟩
      clear hone hAll
      rcases hb with ⟨hb1, hb2⟩ | ⟨hb1, hb2⟩
      all_goals
        go_wp2_with fail
        go_ret
        exact ⟨rfl, HB⟩
end Go.Proofs.Ytabfihknhbfjeaa.Ip
