/-
  The walk of the law DNSOverUDP.
-/
import Derived.Test.YtmgjcjacoegocaaDnLaw0
import Derived.Test.YtmgjcjacoegocaaPkM
import Derived.IntWalk
import Derived.Deep.RegionHeld3
import Derived.Deep.QuietTactic
import Derived.BigQuiet
import Derived.Deep.DeepCutAuto
import Derived.Outline
namespace Go.Proofs.Ytmgjcjacoegocaa.Dn
set_option maxRecDepth 100000
open Go.RowKit Go.Proofs.Ytmgjcjacoegocaa.Wire Go.Proofs.Ytmgjcjacoegocaa.Rw

set_option maxHeartbeats 40000000 in
theorem law53_any (x : DR) (from_ to_ p0 p1 sz_ : Int) (Ax : Option Addr) (nx cx : Nat) (w : World) (hx : x.ok) (hAx : RArg w Ax nx x.recs) (hfrom : In64 from_) (hto : In64 to_) (hp0 : In64 p0) (hp1 : In64 p1) (hsz : 0 ≤ sz_ ∧ sz_ ≤ 255) :
    Calls Try.prog 3 #[.agg #[.int .i64 x.id, .bool x.ans, .int .i64 x.code, .int .i64 x.nm, .bool x.alias, .slice Ax nx cx], .int .i64 from_, .int .i64 to_, .agg #[.int .i64 p0, .int .i64 p1], .int .u8 sz_] w fun e w' => e = .returned (.bool true) ∧ Below w.heap.size w w' := by
  have HAx := Lib.hid hAx; clear hAx
  have HX := Lib.hid fun W h => dnsL x Ax nx cx W hx h
  have ok1 := dnsOf_ok x
  generalize dnsOf x = d1 at *
  have HE := Lib.hid (encL d1 ok1); have HD := Lib.hid (decL d1 ok1)
  have HS := Lib.hid (sameL d1 d1 (ok_recs ok1) (ok_recs ok1)); rw [decide_eq_true (rfl : d1 = d1)] at HS
  have hln := enc_len d1 ok1
  generalize enc d1 = E at *
  have ha := pick_lt from_ 4294967294 (by omega); have hb := pick_lt to_ 4294967294 (by omega)
  have hf := pick_lt p0 65535 (by omega); have ht := pick_lt p1 65535 (by omega)
  have HP1 := Lib.hid fun W => pick_any from_ 4294967294 W hfrom (by omega) (by omega)
  have HP2 := Lib.hid fun W => pick_any to_ 4294967294 W hto (by omega) (by omega)
  have HP3 : Hid (∀ W, Calls Try.prog 5 #[.int .i64 p0, .int .i64 65535] W fun e w' => e = .returned (.int .i64 (pick p0 65535)) ∧ Below W.heap.size W w') := Lib.hid fun W => (pick_any p0 65535 W hp0 (by omega) (by omega)).mono fun e w' h => ⟨h.1, h.2 ▸ Below.refl _ _⟩
  have HP4 : Hid (∀ W, Calls Try.prog 5 #[.int .i64 p1, .int .i64 65535] W fun e w' => e = .returned (.int .i64 (pick p1 65535)) ∧ Below W.heap.size W w') := Lib.hid fun W => (pick_any p1 65535 W hp1 (by omega) (by omega)).mono fun e w' h => ⟨h.1, h.2 ▸ Below.refl _ _⟩
  generalize pick from_ 4294967294 = ka at *
  generalize pick to_ 4294967294 = kb at *
  generalize pick p0 65535 = kf at *
  generalize pick p1 65535 = kt at *
  have uw1 : IntKind.i64.wrap (1 + ka) = 1 + ka := IntWalk.i64_in _ (by omega)
  have uw2 : IntKind.i64.wrap (1 + kb) = 1 + kb := IntWalk.i64_in _ (by omega)
  have uw3 : IntKind.i64.wrap (1 + kf) = 1 + kf := IntWalk.i64_in _ (by omega)
  have uw4 : IntKind.i64.wrap (1 + kt) = 1 + kt := IntWalk.i64_in _ (by omega)
  have uw5 : IntKind.i64.wrap (68 + sz_) = 68 + sz_ := IntWalk.i64_in _ (by omega)
  have uw6 : IntKind.i64.wrap sz_ = sz_ := IntWalk.i64_in _ (by omega)
  obtain ⟨U, hUl, HUE, HUD⟩ := Ip.udpRt (1 + ka) (1 + kb) (1 + kf) (1 + kt) E (by omega) (by omega) (by omega) (by omega) (by omega)
  have hpk : Ip.Pk.ok ⟨1 + ka, 1 + kb, 17, 7, 3, false, false, 0, ⟨U.toArray⟩⟩ := by
    have hs : (⟨U.toArray⟩ : ByteArray).size = U.length := rfl
    unfold Ip.Pk.ok
    rw [hs]
    show Ip.VLen (1 + ka) (1 + kb) 17 7 3 false false 0 U.length
    unfold Ip.VLen; simp; omega
  obtain ⟨l, hl, HFr⟩ := Ip.fragFacts ⟨1 + ka, 1 + kb, 17, 7, 3, false, false, 0, ⟨U.toArray⟩⟩ hpk rfl (68 + sz_) (by omega)
  have HAv := Lib.hid fun W => addr_any (1 + ka) W
  rw [decide_eq_true (show 0 ≤ 1 + ka ∧ 1 + ka ≤ 4294967295 from by omega)] at HAv
  dsimp only [Ip.Pk.val] at HFr
  have hfa : ∃ fa, 1 + ka = fa := ⟨_, rfl⟩
  have hfb : ∃ fb, 1 + kb = fb := ⟨_, rfl⟩
  clear hx hfrom hto hp0 hp1 ok1
  have HB := Below.refl w.heap.size w
  have Hx := Lib.hid (alloc_new' w (.cells #[.int .i64 x.id, .bool x.ans, .int .i64 x.code, .int .i64 x.nm, .bool x.alias, .slice Ax nx cx] 24) (w.heap.size) (by simp))
  have HAx' := Lib.hid (HAx.out.alloc (.cells #[.int .i64 x.id, .bool x.ans, .int .i64 x.code, .int .i64 x.nm, .bool x.alias, .slice Ax nx cx] 24)); clear HAx; have HAx := HAx'; clear HAx'
  have HB' := below_alloc (o := .cells #[.int .i64 x.id, .bool x.ans, .int .i64 x.code, .int .i64 x.nm, .bool x.alias, .slice Ax nx cx] 24) HB; clear HB; have HB := HB'; clear HB'
  have Hp := Lib.hid (alloc_new' (w.alloc (.cells #[.int .i64 x.id, .bool x.ans, .int .i64 x.code, .int .i64 x.nm, .bool x.alias, .slice Ax nx cx] 24)) (.cells #[.int .i64 p0, .int .i64 p1] 25) (w.heap.size + 1) (by simp))
  have Hx' := Lib.hid (block_alloc Hx.out (.cells #[.int .i64 p0, .int .i64 p1] 25)); clear Hx; have Hx := Hx'; clear Hx'
  have HAx' := Lib.hid (HAx.out.alloc (.cells #[.int .i64 p0, .int .i64 p1] 25)); clear HAx; have HAx := HAx'; clear HAx'
  have HB' := below_alloc (o := .cells #[.int .i64 p0, .int .i64 p1] 25) HB; clear HB; have HB := HB'; clear HB'
  go_enter Try.func3, Try.ntmps3
  go_wp2_with fail
  refine (examples_any _).mono ?_
  rintro e w1 ⟨rfl, hb⟩
  have Hx' := Lib.hid (bblock hb Hx.out); clear Hx; have Hx := Hx'; clear Hx'
  have Hp' := Lib.hid (bblock hb Hp.out); clear Hp; have Hp := Hp'; clear Hp'
  have HAx' := Lib.hid (HAx.out.below hb); clear HAx; have HAx := HAx'; clear HAx'
  have HB' := below_call HB hb; clear HB hb; have HB := HB'; clear HB'; have hz1 := HB.size
  have lt_x_1 := blk_lt Hx.out
  have lt_p_1 := blk_lt Hp.out
  go_wp2_with fail
  refine (HP1.out _).mono ?_
  rintro e w' ⟨rfl, rfl⟩
  go_wp2_with fail
  refine (HP2.out _).mono ?_
  rintro e w' ⟨rfl, rfl⟩
  have Sx := cells6 Hx.out
  obtain ⟨⟨qx0, qx1, qx2, qx3, qx4, qx5⟩, zx0, zx1, zx2, zx3, zx4, zx5⟩ := Sx
  have lt_x := blk_lt Hx.out
  go_wp2_with fail
  refine (HX.out _ HAx.out).mono ?_
  rintro e w2 ⟨A1, c1, rfl, hr1, hb⟩
  clear qx0 zx0 qx1 zx1 qx2 zx2 qx3 zx3 qx4 zx4 qx5 zx5
  have Hx' := Lib.hid (bblock hb Hx.out); clear Hx; have Hx := Hx'; clear Hx'
  have Hp' := Lib.hid (bblock hb Hp.out); clear Hp; have Hp := Hp'; clear Hp'
  have HAx' := Lib.hid (HAx.out.below hb); clear HAx; have HAx := HAx'; clear HAx'
  have HB' := below_call HB hb; clear HB hb; have HB := HB'; clear HB'; have hz2 := HB.size
  have lt_x_2 := blk_lt Hx.out
  have lt_p_2 := blk_lt Hp.out
  have Hr1 := Lib.hid hr1; clear hr1
  go_wp2_with fail
  refine (HE.out _ _ _ _ Hr1.out).mono ?_
  rintro e w3 ⟨rfl, hb⟩
  have Hx' := Lib.hid (bblock hb Hx.out); clear Hx; have Hx := Hx'; clear Hx'
  have Hp' := Lib.hid (bblock hb Hp.out); clear Hp; have Hp := Hp'; clear Hp'
  have HAx' := Lib.hid (HAx.out.below hb); clear HAx; have HAx := HAx'; clear HAx'
  have Hr1' := Lib.hid (Hr1.out.below hb); clear Hr1; have Hr1 := Hr1'; clear Hr1'
  have HB' := below_call HB hb; clear HB hb; have HB := HB'; clear HB'; have hz3 := HB.size
  have lt_x_3 := blk_lt Hx.out
  have lt_p_3 := blk_lt Hp.out
  clear Hr1 HE
  go_upto_region 7 with fail
  skip
  have HR := Below.refl w3.heap.size w3
  have gp0 : Hid (w3.cell? ⟨w.heap.size + 1, 0, none⟩ = some (.int .i64 p0)) := Lib.hid (cell_of_block (k := 0) Hp.out rfl).1
  have gp1 : Hid (w3.cell? ⟨w.heap.size + 1, 1, none⟩ = some (.int .i64 p1)) := Lib.hid (cell_of_block (k := 1) Hp.out rfl).1
  go_region_held3 (fun w' => w'.cell? ⟨w.heap.size + 1, 0, none⟩ = some (.int .i64 p0) ∧ w'.cell? ⟨w.heap.size + 1, 1, none⟩ = some (.int .i64 p1) ∧ Below w3.heap.size w3 w') (first | with_reducible exact ⟨bcell (hRv3.out) gp0.out, bcell (hRv3.out) gp1.out, hRv3.out⟩ | with_reducible exact ⟨bcell (hRv2.out) gp0.out, bcell (hRv2.out) gp1.out, hRv2.out⟩ | with_reducible exact ⟨bcell (hRv1.out) gp0.out, bcell (hRv1.out) gp1.out, hRv1.out⟩ | exact ⟨gp0.out, gp1.out, HR.drew⟩)
    (first | (go_at_call 8; have _t := hRv2; clear _t; refine (HUE.out _).mono ?_; rintro e v3 ⟨rfl, hbv3⟩; have hRv3 := Lib.hid (below_call hRv2.out hbv3)) | (go_at_call 5; have _t := hRv1; clear _t; refine (HP4.out _).mono ?_; rintro e v2 ⟨rfl, hbv2⟩; have hRv2 := Lib.hid (below_call hRv1.out hbv2)) | (go_at_call 5; refine (HP3.out _).mono ?_; rintro e v1 ⟨rfl, hbv1⟩; have hRv1 := Lib.hid (below_call HR.drew hbv1)))
  have hb := hRv3.out
  clear HR hRv1 hbv1 hRv2 hbv2 hRv3 hbv3 gp0 gp1
  have Hx' := Lib.hid (bblock hb Hx.out); clear Hx; have Hx := Hx'; clear Hx'
  have Hp' := Lib.hid (bblock hb Hp.out); clear Hp; have Hp := Hp'; clear Hp'
  have HAx' := Lib.hid (HAx.out.below hb); clear HAx; have HAx := HAx'; clear HAx'
  have HB' := below_call HB hb; clear HB hb; have HB := HB'; clear HB'; have hz := HB.size
  clear Hp
  go_wp2_with fail
  refine (HFr.out _).mono ?_
  rintro e w4 ⟨⟨g, cap, rfl, hg, hrow⟩, hb⟩
  have Hx' := Lib.hid (bblock hb Hx.out); clear Hx; have Hx := Hx'; clear Hx'
  have HAx' := Lib.hid (HAx.out.below hb); clear HAx; have HAx := HAx'; clear HAx'
  have HB' := below_call HB hb; clear HB hb; have HB := HB'; clear HB'; have hz4 := HB.size
  have lt_x_4 := blk_lt Hx.out
  have Hrow := Lib.hid hrow; clear hrow
  go_wp2_with fail
  refine (HAv.out _).mono ?_
  rintro e w' ⟨rfl, rfl⟩
  have hlp := hl.pos; have hll := hl.le
  have HL := Lib.hid hl; clear hl
  generalize hLn : l.length = Ln at *
  have HLn := Lib.hid hLn; clear hLn HFr HUE HP1 HP2 HP3 HP4 HAv hg hfa hfb ha hb hf ht uw1 uw2 uw3 uw4 uw5 uw6
  go_wp2_with fail
  obtain ⟨b0, rfl⟩ : ∃ wo : World, wo = w4 := ⟨_, rfl⟩
  have HB0 := Lib.hid HB; clear HB
  go_loopw [20, 21] (fun a i wr => ∃ k : Nat, k ≤ Ln ∧ i = .int .i64 (k : Int) ∧ a = .string ⟨(Ip.catP (l.take k)).toArray⟩ ∧ Below b0.heap.size b0 wr) (fun _ i _ => Ln - (intOf i).toNat)
  case atStart => exact ⟨0, by omega, rfl, rfl, Below.refl _ _⟩
  case round =>
    obtain ⟨k, hk, rfl, rfl, HR⟩ := hrel
    obtain ⟨wo, rfl⟩ : ∃ wo : World, wo = wr := ⟨_, rfl⟩
    by_cases hlt : k < Ln
    · as_aux_lemma =>
      obtain ⟨m, s, hq, hok, hfit, hm, hcat⟩ := Ip.frag_at (p := ⟨1 + ka, 1 + kb, 17, 7, 3, false, false, 0, ⟨U.toArray⟩⟩) HL.out k (by rw [HLn.out]; exact hlt)
      dsimp only at hq hok hfit hm
      rw [Int.zero_add] at hq hok
      have hrk := Hrow.out.below HR
      have hdk : decide ((k : Int) < (Ln : Int)) = true := by simp; omega
      have hk0 : (0 : Int) ≤ (k : Int) := by omega
      have hk1 : (k : Int) < (Ln : Int) := by omega
      have hA : (Ip.catP (l.take k)).length ≤ 4000 := by have := hok; unfold Ip.Pk.ok Ip.VLen at this; dsimp only at this; omega
      have HQ := Lib.hid hq; clear hq
      generalize Ip.catP (l.take k) = A at *
      obtain ⟨R, hRn, hs4, -, HEk, HDk⟩ := Ip.pkRt _ _ _ _ _ _ _ _ _ hok
      have hcase : (m = true ∧ decide ((k : Int) + 1 < (Ln : Int)) = true) ∨ (m = false ∧ decide ((k : Int) + 1 < (Ln : Int)) = false) := by
        have hmo := hm.out; rw [HLn.out, Bool.false_or] at hmo; subst hmo
        by_cases c : k + 1 < Ln
        · left; exact ⟨by simp [c], by simp; omega⟩
        · right; exact ⟨by simp [c], by simp; omega⟩
      obtain ⟨r0, r1, r2, r3, r4, r5, r6, r7, r8⟩ := hrk.cells k _ HQ.out
      have hgl := hrk.lt
      clear hm hok hfit HLn HL hrk
      have g2 : IntKind.i64.wrap ((k : Int) + 1) = (k : Int) + 1 := IntWalk.i64_in _ (by omega)
      have hsum : ¬ 9223372036854775807 < A.length + s.size := by omega
      have HB := HR; clear HR
      go_wp2_with fail
      clear r0 r1 r2 r3 r4 r5 r6 r7 r8 hgl
      refine (HEk.out _).mono ?_
      rintro e w41 ⟨rfl, hb⟩
      have HB' := below_call HB hb; clear HB hb; have HB := HB'; clear HB'; have hz41 := HB.size
      go_wp2_with fail
      refine (HDk.out _).mono ?_
      rintro e w42 ⟨rfl, hb⟩
      have HB' := below_call HB hb; clear HB hb; have HB := HB'; clear HB'; have hz42 := HB.size
      have Hq := Lib.hid (alloc_new' w42 (.cells #[.int .i64 (1 + ka), .int .i64 (1 + kb), .int .i64 17, .int .i64 7, .int .i64 3, .bool false, .bool m, .int .i64 (A.length : Int), .string s] 42) (w42.heap.size) (by simp))
      have HB' := below_alloc (o := .cells #[.int .i64 (1 + ka), .int .i64 (1 + kb), .int .i64 17, .int .i64 7, .int .i64 3, .bool false, .bool m, .int .i64 (A.length : Int), .string s] 42) HB; clear HB; have HB := HB'; clear HB'
      rcases hcase with ⟨rfl, hc⟩ | ⟨rfl, hc⟩
      all_goals
        go_wp2_with fail
        skip
        refine ⟨⟨k + 1, by omega, by go_num, ?_, HB⟩, by simp [intOf]; omega⟩
        rw [hcat.out]; exact congrArg Value.string (Ip.ba_append_s _ _)
    · have hkl : k = Ln := by omega
      subst hkl
      have hAll : Ip.catP (l.take k) = U := by rw [← HLn.out, List.take_length, HL.out.cat]
      rw [hAll]
      have hd0 : decide ((k : Int) < (k : Int)) = false := by simp
      clear hAll HL HLn Hrow hlp hll
      have HBx := below_call HB0.out HR; have HAx2 := Lib.hid (HAx.out.below HR); have Hx2 := Lib.hid (bblock HR Hx.out); clear HAx Hx HR HB0; have HAx := HAx2; have Hx := Hx2; have HB := HBx; clear HAx2 Hx2 HBx
      go_wp2_with fail
      refine (HUD.out _).mono ?_
      rintro e w5 ⟨rfl, hb⟩
      have Hx' := Lib.hid (bblock hb Hx.out); clear Hx; have Hx := Hx'; clear Hx'
      have HAx' := Lib.hid (HAx.out.below hb); clear HAx; have HAx := HAx'; clear HAx'
      have HB' := below_call HB hb; clear HB hb; have HB := HB'; clear HB'; have hz5 := HB.size
      have lt_x_5 := blk_lt Hx.out
      have Hv := Lib.hid (alloc_new' w5 (.cells #[.int .i64 (1 + kf), .int .i64 (1 + kt), .string ⟨E.toArray⟩] 37) (w5.heap.size) (by simp))
      have Hx' := Lib.hid (block_alloc Hx.out (.cells #[.int .i64 (1 + kf), .int .i64 (1 + kt), .string ⟨E.toArray⟩] 37)); clear Hx; have Hx := Hx'; clear Hx'
      have HAx' := Lib.hid (HAx.out.alloc (.cells #[.int .i64 (1 + kf), .int .i64 (1 + kt), .string ⟨E.toArray⟩] 37)); clear HAx; have HAx := HAx'; clear HAx'
      have HB' := below_alloc (o := .cells #[.int .i64 (1 + kf), .int .i64 (1 + kt), .string ⟨E.toArray⟩] 37) HB; clear HB; have HB := HB'; clear HB'
      have Sv := cells3 Hv.out
      obtain ⟨⟨qv0, qv1, qv2⟩, zv0, zv1, zv2⟩ := Sv
      have lt_v := blk_lt Hv.out
      go_wp2_with fail
      refine (HD.out _).mono ?_
      rintro e w6 ⟨⟨A3, c3, rfl, hr3⟩, hb⟩
      clear qv0 zv0 qv1 zv1 qv2 zv2
      have Hx' := Lib.hid (bblock hb Hx.out); clear Hx; have Hx := Hx'; clear Hx'
      have Hv' := Lib.hid (bblock hb Hv.out); clear Hv; have Hv := Hv'; clear Hv'
      have HAx' := Lib.hid (HAx.out.below hb); clear HAx; have HAx := HAx'; clear HAx'
      have HB' := below_call HB hb; clear HB hb; have HB := HB'; clear HB'; have hz6 := HB.size
      have lt_x_6 := blk_lt Hx.out
      have lt_v_6 := blk_lt Hv.out
      have Hr3 := Lib.hid hr3; clear hr3
      clear Hv
      have Hd := Lib.hid (alloc_new' w6 (.cells #[.int .i64 d1.id, .bool d1.ans, .int .i64 d1.code, .string ⟨d1.nm.toArray⟩, .int .i64 d1.kd, .slice A3 d1.recs.length c3] 33) (w6.heap.size) (by simp))
      have Hx' := Lib.hid (block_alloc Hx.out (.cells #[.int .i64 d1.id, .bool d1.ans, .int .i64 d1.code, .string ⟨d1.nm.toArray⟩, .int .i64 d1.kd, .slice A3 d1.recs.length c3] 33)); clear Hx; have Hx := Hx'; clear Hx'
      have HAx' := Lib.hid (HAx.out.alloc (.cells #[.int .i64 d1.id, .bool d1.ans, .int .i64 d1.code, .string ⟨d1.nm.toArray⟩, .int .i64 d1.kd, .slice A3 d1.recs.length c3] 33)); clear HAx; have HAx := HAx'; clear HAx'
      have Hr3' := Lib.hid (Hr3.out.alloc (.cells #[.int .i64 d1.id, .bool d1.ans, .int .i64 d1.code, .string ⟨d1.nm.toArray⟩, .int .i64 d1.kd, .slice A3 d1.recs.length c3] 33)); clear Hr3; have Hr3 := Hr3'; clear Hr3'
      have HB' := below_alloc (o := .cells #[.int .i64 d1.id, .bool d1.ans, .int .i64 d1.code, .string ⟨d1.nm.toArray⟩, .int .i64 d1.kd, .slice A3 d1.recs.length c3] 33) HB; clear HB; have HB := HB'; clear HB'
      go_upto_region 22 with fail
      have HR := Below.refl (w6.alloc (.cells #[.int .i64 d1.id, .bool d1.ans, .int .i64 d1.code, .string ⟨d1.nm.toArray⟩, .int .i64 d1.kd, .slice A3 d1.recs.length c3] 33)).heap.size (w6.alloc (.cells #[.int .i64 d1.id, .bool d1.ans, .int .i64 d1.code, .string ⟨d1.nm.toArray⟩, .int .i64 d1.kd, .slice A3 d1.recs.length c3] 33))
      have gd0 : Hid ((w6.alloc (.cells #[.int .i64 d1.id, .bool d1.ans, .int .i64 d1.code, .string ⟨d1.nm.toArray⟩, .int .i64 d1.kd, .slice A3 d1.recs.length c3] 33)).cell? ⟨w6.heap.size, 0, none⟩ = some (.int .i64 d1.id)) := Lib.hid (cell_of_block (k := 0) Hd.out rfl).1
      have gd1 : Hid ((w6.alloc (.cells #[.int .i64 d1.id, .bool d1.ans, .int .i64 d1.code, .string ⟨d1.nm.toArray⟩, .int .i64 d1.kd, .slice A3 d1.recs.length c3] 33)).cell? ⟨w6.heap.size, 1, none⟩ = some (.bool d1.ans)) := Lib.hid (cell_of_block (k := 1) Hd.out rfl).1
      have gd2 : Hid ((w6.alloc (.cells #[.int .i64 d1.id, .bool d1.ans, .int .i64 d1.code, .string ⟨d1.nm.toArray⟩, .int .i64 d1.kd, .slice A3 d1.recs.length c3] 33)).cell? ⟨w6.heap.size, 2, none⟩ = some (.int .i64 d1.code)) := Lib.hid (cell_of_block (k := 2) Hd.out rfl).1
      have gd3 : Hid ((w6.alloc (.cells #[.int .i64 d1.id, .bool d1.ans, .int .i64 d1.code, .string ⟨d1.nm.toArray⟩, .int .i64 d1.kd, .slice A3 d1.recs.length c3] 33)).cell? ⟨w6.heap.size, 3, none⟩ = some (.string ⟨d1.nm.toArray⟩)) := Lib.hid (cell_of_block (k := 3) Hd.out rfl).1
      have gd4 : Hid ((w6.alloc (.cells #[.int .i64 d1.id, .bool d1.ans, .int .i64 d1.code, .string ⟨d1.nm.toArray⟩, .int .i64 d1.kd, .slice A3 d1.recs.length c3] 33)).cell? ⟨w6.heap.size, 4, none⟩ = some (.int .i64 d1.kd)) := Lib.hid (cell_of_block (k := 4) Hd.out rfl).1
      have gd5 : Hid ((w6.alloc (.cells #[.int .i64 d1.id, .bool d1.ans, .int .i64 d1.code, .string ⟨d1.nm.toArray⟩, .int .i64 d1.kd, .slice A3 d1.recs.length c3] 33)).cell? ⟨w6.heap.size, 5, none⟩ = some (.slice A3 d1.recs.length c3)) := Lib.hid (cell_of_block (k := 5) Hd.out rfl).1
      have gx0 : Hid ((w6.alloc (.cells #[.int .i64 d1.id, .bool d1.ans, .int .i64 d1.code, .string ⟨d1.nm.toArray⟩, .int .i64 d1.kd, .slice A3 d1.recs.length c3] 33)).cell? ⟨w.heap.size, 0, none⟩ = some (.int .i64 x.id)) := Lib.hid (cell_of_block (k := 0) Hx.out rfl).1
      have gx1 : Hid ((w6.alloc (.cells #[.int .i64 d1.id, .bool d1.ans, .int .i64 d1.code, .string ⟨d1.nm.toArray⟩, .int .i64 d1.kd, .slice A3 d1.recs.length c3] 33)).cell? ⟨w.heap.size, 1, none⟩ = some (.bool x.ans)) := Lib.hid (cell_of_block (k := 1) Hx.out rfl).1
      have gx2 : Hid ((w6.alloc (.cells #[.int .i64 d1.id, .bool d1.ans, .int .i64 d1.code, .string ⟨d1.nm.toArray⟩, .int .i64 d1.kd, .slice A3 d1.recs.length c3] 33)).cell? ⟨w.heap.size, 2, none⟩ = some (.int .i64 x.code)) := Lib.hid (cell_of_block (k := 2) Hx.out rfl).1
      have gx3 : Hid ((w6.alloc (.cells #[.int .i64 d1.id, .bool d1.ans, .int .i64 d1.code, .string ⟨d1.nm.toArray⟩, .int .i64 d1.kd, .slice A3 d1.recs.length c3] 33)).cell? ⟨w.heap.size, 3, none⟩ = some (.int .i64 x.nm)) := Lib.hid (cell_of_block (k := 3) Hx.out rfl).1
      have gx4 : Hid ((w6.alloc (.cells #[.int .i64 d1.id, .bool d1.ans, .int .i64 d1.code, .string ⟨d1.nm.toArray⟩, .int .i64 d1.kd, .slice A3 d1.recs.length c3] 33)).cell? ⟨w.heap.size, 4, none⟩ = some (.bool x.alias)) := Lib.hid (cell_of_block (k := 4) Hx.out rfl).1
      have gx5 : Hid ((w6.alloc (.cells #[.int .i64 d1.id, .bool d1.ans, .int .i64 d1.code, .string ⟨d1.nm.toArray⟩, .int .i64 d1.kd, .slice A3 d1.recs.length c3] 33)).cell? ⟨w.heap.size, 5, none⟩ = some (.slice Ax nx cx)) := Lib.hid (cell_of_block (k := 5) Hx.out rfl).1
      go_region_held3 (fun w' => w'.cell? ⟨w6.heap.size, 0, none⟩ = some (.int .i64 d1.id) ∧ w'.cell? ⟨w6.heap.size, 1, none⟩ = some (.bool d1.ans) ∧ w'.cell? ⟨w6.heap.size, 2, none⟩ = some (.int .i64 d1.code) ∧ w'.cell? ⟨w6.heap.size, 3, none⟩ = some (.string ⟨d1.nm.toArray⟩) ∧ w'.cell? ⟨w6.heap.size, 4, none⟩ = some (.int .i64 d1.kd) ∧ w'.cell? ⟨w6.heap.size, 5, none⟩ = some (.slice A3 d1.recs.length c3) ∧ w'.cell? ⟨w.heap.size, 0, none⟩ = some (.int .i64 x.id) ∧ w'.cell? ⟨w.heap.size, 1, none⟩ = some (.bool x.ans) ∧ w'.cell? ⟨w.heap.size, 2, none⟩ = some (.int .i64 x.code) ∧ w'.cell? ⟨w.heap.size, 3, none⟩ = some (.int .i64 x.nm) ∧ w'.cell? ⟨w.heap.size, 4, none⟩ = some (.bool x.alias) ∧ w'.cell? ⟨w.heap.size, 5, none⟩ = some (.slice Ax nx cx) ∧ Below (w6.alloc (.cells #[.int .i64 d1.id, .bool d1.ans, .int .i64 d1.code, .string ⟨d1.nm.toArray⟩, .int .i64 d1.kd, .slice A3 d1.recs.length c3] 33)).heap.size (w6.alloc (.cells #[.int .i64 d1.id, .bool d1.ans, .int .i64 d1.code, .string ⟨d1.nm.toArray⟩, .int .i64 d1.kd, .slice A3 d1.recs.length c3] 33)) w') (first | with_reducible exact ⟨bcell (hRz2.out) gd0.out, bcell (hRz2.out) gd1.out, bcell (hRz2.out) gd2.out, bcell (hRz2.out) gd3.out, bcell (hRz2.out) gd4.out, bcell (hRz2.out) gd5.out, bcell (hRz2.out) gx0.out, bcell (hRz2.out) gx1.out, bcell (hRz2.out) gx2.out, bcell (hRz2.out) gx3.out, bcell (hRz2.out) gx4.out, bcell (hRz2.out) gx5.out, hRz2.out⟩ | with_reducible exact ⟨bcell (hRz1.out) gd0.out, bcell (hRz1.out) gd1.out, bcell (hRz1.out) gd2.out, bcell (hRz1.out) gd3.out, bcell (hRz1.out) gd4.out, bcell (hRz1.out) gd5.out, bcell (hRz1.out) gx0.out, bcell (hRz1.out) gx1.out, bcell (hRz1.out) gx2.out, bcell (hRz1.out) gx3.out, bcell (hRz1.out) gx4.out, bcell (hRz1.out) gx5.out, hRz1.out⟩ | exact ⟨gd0.out, gd1.out, gd2.out, gd3.out, gd4.out, gd5.out, gx0.out, gx1.out, gx2.out, gx3.out, gx4.out, gx5.out, HR.drew⟩)
        (first | (go_at_call 15; have _t := hRz1; clear _t; refine (HS.out _ _ _ _ _ _ _ (SRow.below Hr3.out hRz1.out) hr5).mono ?_; rintro e z2 ⟨rfl, hbz2⟩; have hRz2 := Lib.hid (below_call hRz1.out hbz2)) | (go_at_call 7; refine (HX.out _ (HAx.out.below HR.drew)).mono ?_; rintro e z1 ⟨A5, c5, rfl, hr5, hbz1⟩; have hRz1 := Lib.hid (below_call HR.drew hbz1)))
      have hb := hRz2.out
      clear HR hRz1 hbz1 hRz2 hbz2 gd0 gd1 gd2 gd3 gd4 gd5 gx0 gx1 gx2 gx3 gx4 gx5
      have Hx' := Lib.hid (bblock hb Hx.out); clear Hx; have Hx := Hx'; clear Hx'
      have Hd' := Lib.hid (bblock hb Hd.out); clear Hd; have Hd := Hd'; clear Hd'
      have HAx' := Lib.hid (HAx.out.below hb); clear HAx; have HAx := HAx'; clear HAx'
      have Hr3' := Lib.hid (Hr3.out.below hb); clear Hr3; have Hr3 := Hr3'; clear Hr3'
      have HB' := below_call HB hb; clear HB hb; have HB := HB'; clear HB'; have hz := HB.size
      go_wp2_with fail
      go_ret
      exact ⟨rfl, HB⟩
end Go.Proofs.Ytmgjcjacoegocaa.Dn
