/-
  The walk of the law IPEncodingMatchesReference.
-/
import Derived.Test.YtabfihknhbfjeaaLaw06e
import Derived.Test.YtabfihknhbfjeaaLaw06m
import Derived.Deep.DeepCutAuto
import Derived.Outline
namespace Go.Proofs.Ytabfihknhbfjeaa.Ip
open Go.RowKit Go.Proofs.Ytabfihknhbfjeaa.Wire Go.Proofs.Ytabfihknhbfjeaa.Gen

theorem three (p q1 q3 : Pk) (h : p.s.size ≤ 10000) (h1 : q1.s.size ≤ 10000) (h3 : q3.s.size ≤ 10000) (k : Nat) (hk : k < 3) : ∃ q : Pk, q.s.size ≤ 10000 ∧ [p, q1, q3][k]? = some q := by
  match k, hk with
  | 0, _ => exact ⟨p, h, rfl⟩
  | 1, _ => exact ⟨q1, h1, rfl⟩
  | 2, _ => exact ⟨q3, h3, rfl⟩
theorem two_ints {W : World} {B : Nat} {a b : Int} (h : W.heap[B]? = some (.cells #[.int .i64 a, .int .i64 b] 3)) (ha : In64 a) (hb : In64 b) (j : Nat) (hj : j < 2) : ∃ k : Int, In64 k ∧ W.cell? ⟨B, j, none⟩ = some (.int .i64 k) := by
  match j, hj with
  | 0, _ => exact ⟨a, ha, (cell_of_block h rfl).1⟩
  | 1, _ => exact ⟨b, hb, (cell_of_block h rfl).1⟩
set_option maxRecDepth 100000 in
set_option maxHeartbeats 4000000 in
theorem enc_walk (x0 x1 x2 x3 x4 x5 x6 x7 which n size : Int) (xs : ByteArray) (w : World) (hwh : In64 which) (hn : In64 n) (hsz : In64 size)
    (HX : Hid (∀ w, Calls Try.prog 9 #[.agg #[.int .i64 x0, .int .i64 x1, .int .i64 x2, .int .i64 x3, .int .i64 x4, .int .i64 x5, .int .i64 x6, .int .i64 x7, .string xs]] w fun e w' => (∃ p : Pk, p.ok ∧ p.s.size ≤ 300 ∧ e = .returned (.agg #[.int .i64 p.f, .int .i64 p.t, .int .i64 p.pr, .int .i64 p.ttl, .int .i64 p.id, .bool p.df, .bool p.mf, .int .i64 p.off, .string p.s])) ∧ Below w.heap.size w w')) :
    Calls Try.prog 3 #[.agg #[.int .i64 x0, .int .i64 x1, .int .i64 x2, .int .i64 x3, .int .i64 x4, .int .i64 x5, .int .i64 x6, .int .i64 x7, .string xs], .int .i64 which, .int .i64 n, .int .i64 size] w fun e w' => e = .returned (.bool true) ∧ Below w.heap.size w w' := by
  go_enter Try.func3, Try.ntmps3
  have HB := Below.refl w.heap.size w
  have Hx := Lib.hid (alloc_new' w (.cells #[.int .i64 x0, .int .i64 x1, .int .i64 x2, .int .i64 x3, .int .i64 x4, .int .i64 x5, .int .i64 x6, .int .i64 x7, .string xs] 23) (w.heap.size) (by simp))
  have HB' := below_alloc (o := .cells #[.int .i64 x0, .int .i64 x1, .int .i64 x2, .int .i64 x3, .int .i64 x4, .int .i64 x5, .int .i64 x6, .int .i64 x7, .string xs] 23) HB; clear HB; have HB := HB'; clear HB'
  go_wp2_with fail
  refine (sane_any _).mono ?_
  rintro e w1 ⟨rfl, hb⟩
  have Hx' := Lib.hid (bblock hb Hx.out); clear Hx; have Hx := Hx'; clear Hx'
  have HB' := below_call HB hb; clear HB hb; have HB := HB'; clear HB'; have hz1 := HB.size
  have lt_x_1 := blk_lt Hx.out
  have Sx := cells9 Hx.out
  obtain ⟨⟨qx0, qx1, qx2, qx3, qx4, qx5, qx6, qx7, qx8⟩, zx0, zx1, zx2, zx3, zx4, zx5, zx6, zx7, zx8⟩ := Sx
  have lt_x := blk_lt Hx.out
  go_wp2_with fail
  refine (HX.out _).mono ?_
  rintro e w2 ⟨⟨p, hp, hps, rfl⟩, hb⟩
  clear qx0 zx0 qx1 zx1 qx2 zx2 qx3 zx3 qx4 zx4 qx5 zx5 qx6 zx6 qx7 zx7 qx8 zx8
  have Hx' := Lib.hid (bblock hb Hx.out); clear Hx; have Hx := Hx'; clear Hx'
  have HB' := below_call HB hb; clear HB hb; have HB := HB'; clear HB'; have hz2 := HB.size
  have lt_x_2 := blk_lt Hx.out
  clear Hx
  have Hp := Lib.hid (alloc_new' w2 (.cells #[.int .i64 p.f, .int .i64 p.t, .int .i64 p.pr, .int .i64 p.ttl, .int .i64 p.id, .bool p.df, .bool p.mf, .int .i64 p.off, .string p.s] 26) (w2.heap.size) (by simp))
  have HB' := below_alloc (o := .cells #[.int .i64 p.f, .int .i64 p.t, .int .i64 p.pr, .int .i64 p.ttl, .int .i64 p.id, .bool p.df, .bool p.mf, .int .i64 p.off, .string p.s] 26) HB; clear HB; have HB := HB'; clear HB'
  go_upto_region 3 with fail
  go_cut [38, 39, 40] (fun s38 s39 s40 wx => ∃ (g : Nat) (q1 q3 : Pk), q1.s.size ≤ 10000 ∧ q3.s.size ≤ 10000 ∧ s38 = .slice (some ⟨g, 0, none⟩) 3 3 ∧ s39 = .int .i64 3 ∧ s40 = .int .i64 0 ∧ PkRow wx g [p, q1, q3] ∧ Below w.heap.size w wx)
  case first =>
    go_region_held3 (fun w' => w'.cell? ⟨w2.heap.size, 0, none⟩ = some (.int .i64 p.f) ∧ w'.cell? ⟨w2.heap.size, 1, none⟩ = some (.int .i64 p.t) ∧ w'.cell? ⟨w2.heap.size, 2, none⟩ = some (.int .i64 p.pr) ∧ w'.cell? ⟨w2.heap.size, 3, none⟩ = some (.int .i64 p.ttl) ∧ w'.cell? ⟨w2.heap.size, 4, none⟩ = some (.int .i64 p.id) ∧ w'.cell? ⟨w2.heap.size, 5, none⟩ = some (.bool p.df) ∧ w'.cell? ⟨w2.heap.size, 6, none⟩ = some (.bool p.mf) ∧ w'.cell? ⟨w2.heap.size, 7, none⟩ = some (.int .i64 p.off) ∧ w'.cell? ⟨w2.heap.size, 8, none⟩ = some (.string p.s) ∧ w'.heap[w2.heap.size]? = some (.cells #[.int .i64 p.f, .int .i64 p.t, .int .i64 p.pr, .int .i64 p.ttl, .int .i64 p.id, .bool p.df, .bool p.mf, .int .i64 p.off, .string p.s] 26) ∧ Below w.heap.size w w') (first | exact ⟨(cell_of_block Hp.out rfl).1, (cell_of_block Hp.out rfl).1, (cell_of_block Hp.out rfl).1, (cell_of_block Hp.out rfl).1, (cell_of_block Hp.out rfl).1, (cell_of_block Hp.out rfl).1, (cell_of_block Hp.out rfl).1, (cell_of_block Hp.out rfl).1, (cell_of_block Hp.out rfl).1, Hp.out, HB.drew⟩ | (go_split_ands; exact ⟨by assumption, by assumption, by assumption, by assumption, by assumption, by assumption, by assumption, by assumption, by assumption, by assumption, by assumption⟩) | (go_split_ands; exact ⟨bcell (by assumption) (by assumption), bcell (by assumption) (by assumption), bcell (by assumption) (by assumption), bcell (by assumption) (by assumption), bcell (by assumption) (by assumption), bcell (by assumption) (by assumption), bcell (by assumption) (by assumption), bcell (by assumption) (by assumption), bcell (by assumption) (by assumption), bblock (by assumption) (by assumption), below_call (by assumption) (by assumption)⟩) | (go_split_ands; exact ⟨cell_alloc' _ (by assumption), cell_alloc' _ (by assumption), cell_alloc' _ (by assumption), cell_alloc' _ (by assumption), cell_alloc' _ (by assumption), cell_alloc' _ (by assumption), cell_alloc' _ (by assumption), cell_alloc' _ (by assumption), cell_alloc' _ (by assumption), block_alloc (by assumption) _, below_alloc (by assumption)⟩))
      (first | (go_at_call 10; refine (mutate_any _ _ _ _ _ _ _ _ _ _ _ _ (by omega) (by assumption) (by assumption)).mono ?_; rintro e wm ⟨⟨qm, hqm, rfl⟩, hbm⟩))
    rename_i hH
    obtain ⟨k0_, k1_, k2_, k3_, k4_, k5_, k6_, k7_, k8_, k9_, HB'⟩ := hH
    clear Hp; have Hp := Lib.hid k9_
    clear k0_ k1_ k2_ k3_ k4_ k5_ k6_ k7_ k8_ k9_
    clear HB; have HB := HB'; clear HB'
    have hz := HB.size
    go_wp2_with fail
    go_meet
    exact ⟨_, _, _, by omega, by omega, rfl, rfl, rfl, ⟨_, alloc_new _ _, rfl⟩, HB⟩
  case rest =>
    clear HB Hp
    obtain ⟨g, q1, q3, hs1, hs3, rfl, rfl, rfl, Hrow, HB⟩ := hcut
    have Hrow := Lib.hid Hrow
    go_wp2_with fail
    go_loopw [40] (fun i wr => ∃ k : Nat, k ≤ 3 ∧ i = .int .i64 (k : Int) ∧ PkRow wr g [p, q1, q3] ∧ Below w.heap.size w wr) (fun i _ => 3 - (intOf i).toNat)
    case atStart => exact ⟨0, by omega, rfl, Hrow.out, HB⟩
    case round =>
      clear Hrow HB
      obtain ⟨k, hk, rfl, Hrow, HB⟩ := hrel
      obtain ⟨wo, rfl⟩ : ∃ wo : World, wo = wr := ⟨_, rfl⟩
      have Hrow := Lib.hid Hrow
      by_cases hlt : k < 3
      · obtain ⟨q, hqs, hq⟩ := three p q1 q3 (by omega) hs1 hs3 k hlt
        have hdk : decide ((k : Int) < 3) = true := by simp; omega
        obtain ⟨r0, r1, r2, r3, r4, r5, r6, r7, r8⟩ := Hrow.out.cells k q hq
        have hgl := Hrow.out.lt
        have HQ := Lib.hid hq; clear hq
        obtain ⟨E, n, HE, HRE⟩ := enc_both q (by omega)
        obtain ⟨b, HV, HRV⟩ := valid_both q (by omega)
        go_wp2_with fail
        clear r0 r1 r2 r3 r4 r5 r6 r7 r8 hgl
        have Hv := Lib.hid (alloc_new' wo (.cells #[.int .i64 q.f, .int .i64 q.t, .int .i64 q.pr, .int .i64 q.ttl, .int .i64 q.id, .bool q.df, .bool q.mf, .int .i64 q.off, .string q.s] 26) (wo.heap.size) (by simp))
        have Hrow' := Lib.hid (Hrow.out.alloc (.cells #[.int .i64 q.f, .int .i64 q.t, .int .i64 q.pr, .int .i64 q.ttl, .int .i64 q.id, .bool q.df, .bool q.mf, .int .i64 q.off, .string q.s] 26)); clear Hrow; have Hrow := Hrow'; clear Hrow'
        have HB' := below_alloc (o := .cells #[.int .i64 q.f, .int .i64 q.t, .int .i64 q.pr, .int .i64 q.ttl, .int .i64 q.id, .bool q.df, .bool q.mf, .int .i64 q.off, .string q.s] 26) HB; clear HB; have HB := HB'; clear HB'
        refine (HE.out _).mono ?_
        rintro e w3 ⟨rfl, hb⟩
        have Hv' := Lib.hid (bblock hb Hv.out); clear Hv; have Hv := Hv'; clear Hv'
        have Hrow' := Lib.hid (Hrow.out.below hb); clear Hrow; have Hrow := Hrow'; clear Hrow'
        have HB' := below_call HB hb; clear HB hb; have HB := HB'; clear HB'; have hz3 := HB.size
        have lt_v_3 := blk_lt Hv.out
        have Sv := cells9 Hv.out
        obtain ⟨⟨qv0, qv1, qv2, qv3, qv4, qv5, qv6, qv7, qv8⟩, zv0, zv1, zv2, zv3, zv4, zv5, zv6, zv7, zv8⟩ := Sv
        have lt_v := blk_lt Hv.out
        go_wp2_with fail
        refine (HRE.out _).mono ?_
        rintro e w4 ⟨rfl, hb⟩
        clear qv0 zv0 qv1 zv1 qv2 zv2 qv3 zv3 qv4 zv4 qv5 zv5 qv6 zv6 qv7 zv7 qv8 zv8
        have Hv' := Lib.hid (bblock hb Hv.out); clear Hv; have Hv := Hv'; clear Hv'
        have Hrow' := Lib.hid (Hrow.out.below hb); clear Hrow; have Hrow := Hrow'; clear Hrow'
        have HB' := below_call HB hb; clear HB hb; have HB := HB'; clear HB'; have hz4 := HB.size
        have lt_v_4 := blk_lt Hv.out
        go_wp2_with fail
        have hEE : (!(E.toList == E.toList)) = false := by simp
        have hNN : (n != n) = false := by simp
        have hvv : (b != b) = false := by simp
        go_region_held3 (fun w' => w'.cell? ⟨wo.heap.size, 0, none⟩ = some (.int .i64 q.f) ∧ w'.cell? ⟨wo.heap.size, 1, none⟩ = some (.int .i64 q.t) ∧ w'.cell? ⟨wo.heap.size, 2, none⟩ = some (.int .i64 q.pr) ∧ w'.cell? ⟨wo.heap.size, 3, none⟩ = some (.int .i64 q.ttl) ∧ w'.cell? ⟨wo.heap.size, 4, none⟩ = some (.int .i64 q.id) ∧ w'.cell? ⟨wo.heap.size, 5, none⟩ = some (.bool q.df) ∧ w'.cell? ⟨wo.heap.size, 6, none⟩ = some (.bool q.mf) ∧ w'.cell? ⟨wo.heap.size, 7, none⟩ = some (.int .i64 q.off) ∧ w'.cell? ⟨wo.heap.size, 8, none⟩ = some (.string q.s) ∧ w'.heap[wo.heap.size]? = some (.cells #[.int .i64 q.f, .int .i64 q.t, .int .i64 q.pr, .int .i64 q.ttl, .int .i64 q.id, .bool q.df, .bool q.mf, .int .i64 q.off, .string q.s] 26) ∧ PkRow w' g [p, q1, q3] ∧ Below w.heap.size w w') (first | exact ⟨(cell_of_block Hv.out rfl).1, (cell_of_block Hv.out rfl).1, (cell_of_block Hv.out rfl).1, (cell_of_block Hv.out rfl).1, (cell_of_block Hv.out rfl).1, (cell_of_block Hv.out rfl).1, (cell_of_block Hv.out rfl).1, (cell_of_block Hv.out rfl).1, (cell_of_block Hv.out rfl).1, Hv.out, Hrow.out.drew, HB.drew⟩ | (go_split_ands; exact ⟨by assumption, by assumption, by assumption, by assumption, by assumption, by assumption, by assumption, by assumption, by assumption, by assumption, by assumption, by assumption⟩) | (go_split_ands; exact ⟨bcell (by assumption) (by assumption), bcell (by assumption) (by assumption), bcell (by assumption) (by assumption), bcell (by assumption) (by assumption), bcell (by assumption) (by assumption), bcell (by assumption) (by assumption), bcell (by assumption) (by assumption), bcell (by assumption) (by assumption), bcell (by assumption) (by assumption), bblock (by assumption) (by assumption), PkRow.below (by assumption) (by assumption), below_call (by assumption) (by assumption)⟩) | (go_split_ands; exact ⟨cell_alloc' _ (by assumption), cell_alloc' _ (by assumption), cell_alloc' _ (by assumption), cell_alloc' _ (by assumption), cell_alloc' _ (by assumption), cell_alloc' _ (by assumption), cell_alloc' _ (by assumption), cell_alloc' _ (by assumption), cell_alloc' _ (by assumption), block_alloc (by assumption) _, PkRow.alloc (by assumption) _, below_alloc (by assumption)⟩))
          (first | (go_at_call 13; refine (HV.out _).mono ?_; rintro e w8 ⟨rfl, hb8⟩) | (go_at_call 14; refine (HRV.out _).mono ?_; rintro e w9 ⟨rfl, hb9⟩))
        rename_i hH
        obtain ⟨k0_, k1_, k2_, k3_, k4_, k5_, k6_, k7_, k8_, k9_, k10_, HB'⟩ := hH
        clear Hv; have Hv := Lib.hid k9_
        clear Hrow; have Hrow := Lib.hid k10_
        clear k0_ k1_ k2_ k3_ k4_ k5_ k6_ k7_ k8_ k9_ k10_
        clear HB; have HB := HB'; clear HB'
        have hz := HB.size
        clear hEE hNN hvv
        have hpb := pick_lt size 300 (by omega)
        have HN := Lib.hid fun w => pick_any size 300 w hsz.1 hsz.2 (by omega) (by omega)
        generalize pick size 300 = n0 at *
        go_wp2_with fail
        refine (HN.out _).mono ?_
        rintro e w' ⟨rfl, rfl⟩
        go_wp2_with fail
        have Hn := Lib.hid (alloc_new' w9 (.cells #[.int .i64 size, .int .i64 (60 + n0)] 3) (w9.heap.size) (by simp))
        have Hv' := Lib.hid (block_alloc Hv.out (.cells #[.int .i64 size, .int .i64 (60 + n0)] 3)); clear Hv; have Hv := Hv'; clear Hv'
        have Hrow' := Lib.hid (Hrow.out.alloc (.cells #[.int .i64 size, .int .i64 (60 + n0)] 3)); clear Hrow; have Hrow := Hrow'; clear Hrow'
        have HB' := below_alloc (o := .cells #[.int .i64 size, .int .i64 (60 + n0)] 3) HB; clear HB; have HB := HB'; clear HB'
        go_loopw [75] (fun i wr => ∃ j : Nat, j ≤ 2 ∧ i = .int .i64 (j : Int) ∧ PkRow wr g [p, q1, q3] ∧ wr.heap[wo.heap.size]? = some (.cells #[.int .i64 q.f, .int .i64 q.t, .int .i64 q.pr, .int .i64 q.ttl, .int .i64 q.id, .bool q.df, .bool q.mf, .int .i64 q.off, .string q.s] 26) ∧ wr.heap[w9.heap.size]? = some (.cells #[.int .i64 size, .int .i64 (60 + n0)] 3) ∧ Below w.heap.size w wr) (fun i _ => 2 - (intOf i).toNat)
        case atStart => exact ⟨0, by omega, rfl, Hrow.out, Hv.out, Hn.out, HB⟩
        case round =>
          clear HB Hrow Hv Hn
          obtain ⟨j, hj, rfl, Hrow, Hv, Hn, HB⟩ := hrel
          obtain ⟨wi, rfl⟩ : ∃ wi : World, wi = wr := ⟨_, rfl⟩
          have Hrow := Lib.hid Hrow; have Hv := Lib.hid Hv; have Hn := Lib.hid Hn
          by_cases hjt : j < 2
          · obtain ⟨kk, hkk, d0⟩ := two_ints Hn.out hsz (by constructor <;> omega) j hjt
            have hdj : decide ((j : Int) < 2) = true := by simp; omega
            obtain ⟨l, r, hll, HF, HRF⟩ := frag_both q (by omega) kk hkk
            have Sv := cells9 Hv.out
            obtain ⟨⟨qv0, qv1, qv2, qv3, qv4, qv5, qv6, qv7, qv8⟩, zv0, zv1, zv2, zv3, zv4, zv5, zv6, zv7, zv8⟩ := Sv
            have lt_v := blk_lt Hv.out
            have lt_n := blk_lt Hn.out
            go_wp2_with fail
            clear d0
            clear qv0 zv0 qv1 zv1 qv2 zv2 qv3 zv3 qv4 zv4 qv5 zv5 qv6 zv6 qv7 zv7 qv8 zv8
            refine (HF.out _).mono ?_
            rintro e w5 ⟨⟨v1, rfl, Hv1⟩, hb⟩
            have Hv' := Lib.hid (bblock hb Hv.out); clear Hv; have Hv := Hv'; clear Hv'
            have Hn' := Lib.hid (bblock hb Hn.out); clear Hn; have Hn := Hn'; clear Hn'
            have Hrow' := Lib.hid (Hrow.out.below hb); clear Hrow; have Hrow := Hrow'; clear Hrow'
            have HB' := below_call HB hb; clear HB hb; have HB := HB'; clear HB'; have hz5 := HB.size
            have lt_v_5 := blk_lt Hv.out
            have lt_n_5 := blk_lt Hn.out
            have Hv1 := Lib.hid Hv1
            have Sv := cells9 Hv.out
            obtain ⟨⟨qv0, qv1, qv2, qv3, qv4, qv5, qv6, qv7, qv8⟩, zv0, zv1, zv2, zv3, zv4, zv5, zv6, zv7, zv8⟩ := Sv
            have lt_v := blk_lt Hv.out
            go_wp2_with fail
            refine (HRF.out _).mono ?_
            rintro e w6 ⟨⟨v2, rfl, Hv2⟩, hb⟩
            clear qv0 zv0 qv1 zv1 qv2 zv2 qv3 zv3 qv4 zv4 qv5 zv5 qv6 zv6 qv7 zv7 qv8 zv8
            have Hv' := Lib.hid (bblock hb Hv.out); clear Hv; have Hv := Hv'; clear Hv'
            have Hn' := Lib.hid (bblock hb Hn.out); clear Hn; have Hn := Hn'; clear Hn'
            have Hrow' := Lib.hid (Hrow.out.below hb); clear Hrow; have Hrow := Hrow'; clear Hrow'
            have Hv1' := Lib.hid (Hv1.out.below hb); clear Hv1; have Hv1 := Hv1'; clear Hv1'
            have HB' := below_call HB hb; clear HB hb; have HB := HB'; clear HB'; have hz6 := HB.size
            have lt_v_6 := blk_lt Hv.out
            have lt_n_6 := blk_lt Hn.out
            have Hv2 := Lib.hid Hv2
            have hrr : (r != r) = false := by simp
            go_wp2_with fail
            refine (same_any v1 v2 l _ hll (by exact Hv1.out) (by exact Hv2.out)).mono ?_
            rintro e w7 ⟨rfl, hb⟩
            have Hv' := Lib.hid (bblock hb Hv.out); clear Hv; have Hv := Hv'; clear Hv'
            have Hn' := Lib.hid (bblock hb Hn.out); clear Hn; have Hn := Hn'; clear Hn'
            have Hrow' := Lib.hid (Hrow.out.below hb); clear Hrow; have Hrow := Hrow'; clear Hrow'
            have Hv1' := Lib.hid (Hv1.out.below hb); clear Hv1; have Hv1 := Hv1'; clear Hv1'
            have Hv2' := Lib.hid (Hv2.out.below hb); clear Hv2; have Hv2 := Hv2'; clear Hv2'
            have HB' := below_call HB hb; clear HB hb; have HB := HB'; clear HB'; have hz7 := HB.size
            have lt_v_7 := blk_lt Hv.out
            have lt_n_7 := blk_lt Hn.out
            go_wp2_with fail
            go_roundw
            case rel => exact ⟨j + 1, by omega, by go_num, Hrow.out, Hv.out, Hn.out, HB⟩
            case measure => simp [intOf]; omega
          · go_wp2_with fail
            go_roundw
            case rel => exact ⟨k + 1, by omega, by go_num, Hrow.out, HB⟩
            case measure => simp [intOf]; omega
      · go_wp2_with fail
        go_ret
        exact ⟨rfl, HB⟩
end Go.Proofs.Ytabfihknhbfjeaa.Ip
