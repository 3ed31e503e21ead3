/-
  The walk of the law DNSThroughFragments.
-/
import Derived.Test.YtmgjcjacoegocaaGreatDoorDnLaw0
import Derived.Test.YtmgjcjacoegocaaGreatDoorReN
import Derived.Test.YtmgjcjacoegocaaGreatDoorLkM
import Derived.Test.YtmgjcjacoegocaaGreatDoorRtM
import Derived.IntWalk
import Derived.Deep.RegionHeld3
import Derived.Deep.QuietTactic
import Derived.BigQuiet
import Derived.Deep.DeepCutAuto
import Derived.Deep.CutRange
import Derived.Outline
namespace Go.Proofs.YtmgjcjacoegocaaGreatDoor.Dn
set_option maxRecDepth 100000
open Go.RowKit Go.Proofs.YtmgjcjacoegocaaGreatDoor.Wire Go.Proofs.YtmgjcjacoegocaaGreatDoor.Rw
open Go.Proofs.YtmgjcjacoegocaaGreatDoor.Ip (Pk fragList PkRow)
open Go.Proofs.YtmgjcjacoegocaaGreatDoor.Re (OneT RS2 Cutable fragL new_tt PutRes PkV putA)

/-- the state of the law when i frames have come -/
def S62 (W0 : World) (T : Nat) (p : Pk) (n : Int) (t M i : Nat) (g : Value) (W : World) : Prop := ∃ A, OneT W0 T A (fun q => q < W0.heap.size) W ∧ ((i < M ∧ g = .string ⟨#[]⟩ ∧ RS2 ⟨5, 167772162, 17, 8⟩ p n t i A) ∨ (i = M ∧ g = .string p.s))
theorem onet_K {w W : World} {T : Nat} {A : List (Re.Ky × Re.Hf)} {K : Nat → Prop} (h : OneT w T A K W) : OneT w T A (fun q => q < w.heap.size) W := by
  obtain ⟨S, h1, h2⟩ := h.ex
  exact ⟨⟨S, h1, fun q hq => ⟨(h2 q hq).1, fun r => by have := (h2 q hq).1; omega⟩⟩, h.bel⟩
set_option maxHeartbeats 40000000 in
theorem law62_any (x : DR) (sz_ tu_ : Int) (odd : ByteArray) (Ax : Option Addr) (nx cx : Nat) (a0 : Addr) (w : World) (hg : Lk.Gl w a0) (hx : x.ok) (hAx : RArg w Ax nx x.recs) (hsz : 0 ≤ sz_ ∧ sz_ ≤ 65535) (htu : 0 ≤ tu_ ∧ tu_ ≤ 255) (hodd : odd.size ≤ 9223372036854775807) :
    Calls Tryz.prog 3 #[.agg #[.int .i64 x.id, .bool x.ans, .int .i64 x.code, .int .i64 x.nm, .bool x.alias, .slice Ax nx cx], .int .u16 sz_, .int .u8 tu_, .string odd] w fun e w' => e = .returned (.bool true) ∧ Below w.heap.size w w' := by
  obtain ⟨z, rfl⟩ := Int.eq_ofNat_of_zero_le hsz.1
  obtain ⟨t, rfl⟩ := Int.eq_ofNat_of_zero_le htu.1
  have HG := Lib.hid hg
  have HAx := Lib.hid hAx; clear hAx
  have HX := Lib.hid fun W h => dnsL x Ax nx cx W hx h
  have ok1 := dnsOf_ok x
  generalize dnsOf x = d1 at *
  have HE := Lib.hid (encL d1 ok1); have HD := Lib.hid (decL d1 ok1)
  have HS := Lib.hid (rsameL d1 d1 (ok_recs ok1) (ok_recs ok1)); rw [decide_eq_true (rfl : d1 = d1)] at HS
  have hln := enc_len d1 ok1
  generalize enc d1 = E at *
  obtain ⟨U, hUl, HUE, HUD⟩ := Ip.udpRt 167772161 167772162 53 20101 E (by omega) (by omega) (by omega) (by omega) (by omega)
  obtain ⟨z9, hz9⟩ : ∃ z9, z % 957 = z9 := ⟨_, rfl⟩
  have hz9b : z9 ≤ 956 := by omega
  have hzb : (z : Int) ≤ 65535 := hsz.2
  have htb : t ≤ 255 := by have := htu.2; omega
  have m3 : ((z : Int)).tmod 957 = (z9 : Int) := by rw [Int.tmod_eq_emod_of_nonneg (by omega)]; omega
  have m4 : (z : Int) % 957 = (z9 : Int) := by omega
  have m5 : IntKind.i64.wrap (68 + (z9 : Int)) = 68 + (z9 : Int) := IntWalk.i64_in _ (by omega)
  have m6 : IntKind.i64.wrap (t : Int) = (t : Int) := IntWalk.i64_in _ (by omega)
  have m7 : IntKind.i64.wrap (z : Int) = (z : Int) := IntWalk.i64_in _ (by omega)
  have hc : Cutable ⟨167772161, 167772162, 17, 9, 8, false, false, 0, ⟨U.toArray⟩⟩ (68 + (z9 : Int)) := by
    refine ⟨?_, rfl, rfl, rfl, by omega⟩
    have hs : (⟨U.toArray⟩ : ByteArray).size = U.length := rfl
    unfold Ip.Pk.ok
    rw [hs]
    show Ip.VLen 167772161 167772162 17 9 8 false false 0 U.length
    unfold Ip.VLen; simp; omega
  have HC := Lib.hid hc
  have HF := Lib.hid fun W => fragL hc W
  have hsp := Ip.frag_spec _ hc.ok hc.df _ hc.n68
  have hMp := hsp.pos
  have hMl := hsp.le
  have HAt := Lib.hid hsp.at_
  have HCS : Hid (∀ W0 T M i g W, S62 W0 T ⟨167772161, 167772162, 17, 9, 8, false, false, 0, ⟨U.toArray⟩⟩ (68 + (z9 : Int)) t M i g W ↔ ∃ A, OneT W0 T A (fun q => q < W0.heap.size) W ∧ ((i < M ∧ g = .string ⟨#[]⟩ ∧ RS2 ⟨5, 167772162, 17, 8⟩ ⟨167772161, 167772162, 17, 9, 8, false, false, 0, ⟨U.toArray⟩⟩ (68 + (z9 : Int)) t i A) ∨ (i = M ∧ g = .string ⟨U.toArray⟩))) := Lib.hid fun _ _ _ _ _ _ => Iff.rfl
  generalize hLL : fragList ⟨167772161, 167772162, 17, 9, 8, false, false, 0, ⟨U.toArray⟩⟩ (68 + (z9 : Int)) = l at *
  have HLL := Lib.hid hLL; clear hLL hsp hc hg
  obtain ⟨M, hM⟩ : ∃ M, l.length = M := ⟨_, rfl⟩
  rw [hM] at hMp hMl HF
  have HM := Lib.hid hM; clear hM
  dsimp only [Ip.Pk.val] at HF
  have HLk := Lib.hid fun (g c : Nat) W (hf : Rt.FB W g 1 (68 + (z9 : Int))) => Rt.lookup1 g c 1 (68 + (z9 : Int)) W (by omega) (by omega) hf
  have HOdd := Lib.hid hodd
  clear hx ok1 hsz htu hz9 hln hUl hodd
  have HB := Below.refl w.heap.size w
  have Hx := Lib.hid (alloc_new' w (.cells #[.int .i64 x.id, .bool x.ans, .int .i64 x.code, .int .i64 x.nm, .bool x.alias, .slice Ax nx cx] 24) (w.heap.size) (by simp))
  have HAx' := Lib.hid (HAx.out.alloc (.cells #[.int .i64 x.id, .bool x.ans, .int .i64 x.code, .int .i64 x.nm, .bool x.alias, .slice Ax nx cx] 24)); clear HAx; have HAx := HAx'; clear HAx'
  have HB' := below_alloc (o := .cells #[.int .i64 x.id, .bool x.ans, .int .i64 x.code, .int .i64 x.nm, .bool x.alias, .slice Ax nx cx] 24) HB; clear HB; have HB := HB'; clear HB'
  go_enter Tryz.func3, Tryz.ntmps3
  go_wp2_with fail
  refine (examples_any _).mono ?_
  rintro e w1 ⟨rfl, hb⟩
  have Hx' := Lib.hid (bblock hb Hx.out); clear Hx; have Hx := Hx'; clear Hx'
  have HAx' := Lib.hid (HAx.out.below hb); clear HAx; have HAx := HAx'; clear HAx'
  have HB' := below_call HB hb; clear HB hb; have HB := HB'; clear HB'; have hz1 := HB.size
  have lt_x_1 := blk_lt Hx.out
  go_upto_region 6 with fail
  have Hh := Lib.hid (alloc_new' w1 (.cells #[.int .i64 1, .int .i64 167772161, .int .i64 167772160, .int .i64 24, .int .i64 (68 + (z9 : Int))] 30) (w1.heap.size) (by simp))
  have Hx' := Lib.hid (block_alloc Hx.out (.cells #[.int .i64 1, .int .i64 167772161, .int .i64 167772160, .int .i64 24, .int .i64 (68 + (z9 : Int))] 30)); clear Hx; have Hx := Hx'; clear Hx'
  have HAx' := Lib.hid (HAx.out.alloc (.cells #[.int .i64 1, .int .i64 167772161, .int .i64 167772160, .int .i64 24, .int .i64 (68 + (z9 : Int))] 30)); clear HAx; have HAx := HAx'; clear HAx'
  have HB' := below_alloc (o := .cells #[.int .i64 1, .int .i64 167772161, .int .i64 167772160, .int .i64 24, .int .i64 (68 + (z9 : Int))] 30) HB; clear HB; have HB := HB'; clear HB'
  have Sh := cells5 Hh.out
  obtain ⟨⟨qh0, qh1, qh2, qh3, qh4⟩, zh0, zh1, zh2, zh3, zh4⟩ := Sh
  have lt_h := blk_lt Hh.out
  go_wp2_with fail
  clear qh0 zh0 qh1 zh1 qh2 zh2 qh3 zh3 qh4 zh4
  have Hf := Lib.hid (alloc_new' (w1.alloc (.cells #[.int .i64 1, .int .i64 167772161, .int .i64 167772160, .int .i64 24, .int .i64 (68 + (z9 : Int))] 30)) (.cells #[.int .i64 1, .int .i64 167772161, .int .i64 167772160, .int .i64 24, .int .i64 (68 + (z9 : Int))] 30) (w1.heap.size + 1) (by simp))
  have Hx' := Lib.hid (block_alloc Hx.out (.cells #[.int .i64 1, .int .i64 167772161, .int .i64 167772160, .int .i64 24, .int .i64 (68 + (z9 : Int))] 30)); clear Hx; have Hx := Hx'; clear Hx'
  have Hh' := Lib.hid (block_alloc Hh.out (.cells #[.int .i64 1, .int .i64 167772161, .int .i64 167772160, .int .i64 24, .int .i64 (68 + (z9 : Int))] 30)); clear Hh; have Hh := Hh'; clear Hh'
  have HAx' := Lib.hid (HAx.out.alloc (.cells #[.int .i64 1, .int .i64 167772161, .int .i64 167772160, .int .i64 24, .int .i64 (68 + (z9 : Int))] 30)); clear HAx; have HAx := HAx'; clear HAx'
  have HB' := below_alloc (o := .cells #[.int .i64 1, .int .i64 167772161, .int .i64 167772160, .int .i64 24, .int .i64 (68 + (z9 : Int))] 30) HB; clear HB; have HB := HB'; clear HB'
  refine (HLk.out _ _ _ (by exact Hf.out)).mono ?_
  rintro e w2 ⟨rfl, hb⟩
  have Hx' := Lib.hid (bblock hb Hx.out); clear Hx; have Hx := Hx'; clear Hx'
  have Hh' := Lib.hid (bblock hb Hh.out); clear Hh; have Hh := Hh'; clear Hh'
  have Hf' := Lib.hid (bblock hb Hf.out); clear Hf; have Hf := Hf'; clear Hf'
  have HAx' := Lib.hid (HAx.out.below hb); clear HAx; have HAx := HAx'; clear HAx'
  have HB' := below_call HB hb; clear HB hb; have HB := HB'; clear HB'; have hz2 := HB.size
  have lt_x_2 := blk_lt Hx.out
  have lt_h_2 := blk_lt Hh.out
  have lt_f_2 := blk_lt Hf.out
  clear Hf HLk
  have Sx := cells6 Hx.out
  obtain ⟨⟨qx0, qx1, qx2, qx3, qx4, qx5⟩, zx0, zx1, zx2, zx3, zx4, zx5⟩ := Sx
  have lt_x := blk_lt Hx.out
  go_wp2_with fail
  refine (HX.out _ HAx.out).mono ?_
  rintro e w3 ⟨A1, c1, rfl, hr1, hb⟩
  clear qx0 zx0 qx1 zx1 qx2 zx2 qx3 zx3 qx4 zx4 qx5 zx5
  have Hx' := Lib.hid (bblock hb Hx.out); clear Hx; have Hx := Hx'; clear Hx'
  have Hh' := Lib.hid (bblock hb Hh.out); clear Hh; have Hh := Hh'; clear Hh'
  have HAx' := Lib.hid (HAx.out.below hb); clear HAx; have HAx := HAx'; clear HAx'
  have HB' := below_call HB hb; clear HB hb; have HB := HB'; clear HB'; have hz3 := HB.size
  have lt_x_3 := blk_lt Hx.out
  have lt_h_3 := blk_lt Hh.out
  have Hr1 := Lib.hid hr1; clear hr1
  go_wp2_with fail
  refine (HE.out _ _ _ _ Hr1.out).mono ?_
  rintro e w4 ⟨rfl, hb⟩
  have Hx' := Lib.hid (bblock hb Hx.out); clear Hx; have Hx := Hx'; clear Hx'
  have Hh' := Lib.hid (bblock hb Hh.out); clear Hh; have Hh := Hh'; clear Hh'
  have HAx' := Lib.hid (HAx.out.below hb); clear HAx; have HAx := HAx'; clear HAx'
  have Hr1' := Lib.hid (Hr1.out.below hb); clear Hr1; have Hr1 := Hr1'; clear Hr1'
  have HB' := below_call HB hb; clear HB hb; have HB := HB'; clear HB'; have hz4 := HB.size
  have lt_x_4 := blk_lt Hx.out
  have lt_h_4 := blk_lt Hh.out
  clear Hr1 HE
  have Sh := cells5 Hh.out
  obtain ⟨⟨qh0, qh1, qh2, qh3, qh4⟩, zh0, zh1, zh2, zh3, zh4⟩ := Sh
  have lt_h := blk_lt Hh.out
  go_wp2_with fail
  refine (HUE.out _).mono ?_
  rintro e w5 ⟨rfl, hb⟩
  clear qh0 zh0 qh1 zh1 qh2 zh2 qh3 zh3 qh4 zh4
  have Hx' := Lib.hid (bblock hb Hx.out); clear Hx; have Hx := Hx'; clear Hx'
  have Hh' := Lib.hid (bblock hb Hh.out); clear Hh; have Hh := Hh'; clear Hh'
  have HAx' := Lib.hid (HAx.out.below hb); clear HAx; have HAx := HAx'; clear HAx'
  have HB' := below_call HB hb; clear HB hb; have HB := HB'; clear HB'; have hz5 := HB.size
  have lt_x_5 := blk_lt Hx.out
  have lt_h_5 := blk_lt Hh.out
  clear HUE
  have Sh := cells5 Hh.out
  obtain ⟨⟨qh0, qh1, qh2, qh3, qh4⟩, zh0, zh1, zh2, zh3, zh4⟩ := Sh
  have lt_h := blk_lt Hh.out
  go_wp2_with fail
  refine (HF.out _).mono ?_
  rintro e w6 ⟨⟨g, cap, rfl, hgg, hrow⟩, hb⟩
  clear qh0 zh0 qh1 zh1 qh2 zh2 qh3 zh3 qh4 zh4
  have Hx' := Lib.hid (bblock hb Hx.out); clear Hx; have Hx := Hx'; clear Hx'
  have Hh' := Lib.hid (bblock hb Hh.out); clear Hh; have Hh := Hh'; clear Hh'
  have HAx' := Lib.hid (HAx.out.below hb); clear HAx; have HAx := HAx'; clear HAx'
  have HB' := below_call HB hb; clear HB hb; have HB := HB'; clear HB'; have hz6 := HB.size
  have lt_x_6 := blk_lt Hx.out
  have lt_h_6 := blk_lt Hh.out
  have Hrow := Lib.hid hrow; clear hrow HF hgg
  have hM0 : ((M : Int) == 0) = false := by rw [beq_eq_false_iff_ne]; omega
  go_wp2_with fail
  refine (new_tt _).mono ?_
  rintro e wn hN
  obtain ⟨b0, rfl⟩ : ∃ wo : World, wo = w6 := ⟨_, rfl⟩
  obtain ⟨T, rfl, hone, hb2⟩ := OneT.ofNew (Below.refl b0.heap.size b0) hN
  have HO := Lib.hid hone; clear hone hN hb2
  have HB0 := Lib.hid HB; clear HB
  skip
  go_upto_region 13 with fail
  go_cut [22] (fun s22 wx => ∃ S : ByteArray, s22 = .string S ∧ 8 ≤ S.size ∧ S.size ≤ 48 ∧ wn = wx)
  case first =>
    have ho := HOdd.out
    have h8 : ByteArray.size ⟨#[49, 50, 51, 52, 53, 54, 55, 56]⟩ = 8 := rfl
    rcases Nat.lt_or_ge 40 odd.size with h | h
    · have h1 : (40 : Int) < (odd.size : Int) := by omega
      have h2 : ¬ ((odd.size : Int) ≤ 40) := by omega
      go_wp2_with fail
      all_goals first | (exfalso; omega) | skip
      go_meet
      refine ⟨_, rfl, ?_, ?_, rfl⟩ <;> (simp; omega)
    · have h1 : (odd.size : Int) ≤ 40 := by omega
      have h2 : ¬ ((40 : Int) < (odd.size : Int)) := by omega
      go_wp2_with fail
      all_goals first | (exfalso; omega) | skip
      go_meet
      refine ⟨_, rfl, ?_, ?_, rfl⟩ <;> (simp; omega)
  case rest =>
    obtain ⟨S, rfl, hS8, hS48, rfl⟩ := hcut
    obtain ⟨d, hd⟩ : ∃ d, S.size / 8 = d := ⟨_, rfl⟩
    have e1 : ((S.size : Int)).tdiv 8 = (d : Int) := by rw [Int.tdiv_eq_ediv_of_nonneg (by omega)]; omega
    have e2 : (S.size : Int) / 8 = (d : Int) := by omega
    have e3 : IntKind.i64.wrap (8 * (d : Int)) = 8 * (d : Int) := IntWalk.i64_in _ (by omega)
    have e4 : (0 : Int) ≤ 8 * (d : Int) := by omega
    have e5 : 8 * (d : Int) ≤ (S.size : Int) := by omega
    have e6 : (8 * (d : Int)).toNat = 8 * d := by omega
    have hSe : (S.extract 0 (8 * d)).size ≤ 48 := by rw [ByteArray.size_extract]; omega
    have HSe := Lib.hid hSe; clear hSe hd
    have hS0 : Hid (S62 b0 T ⟨167772161, 167772162, 17, 9, 8, false, false, 0, ⟨U.toArray⟩⟩ (68 + (z9 : Int)) t M 0 (.string ⟨#[]⟩) wn) := Lib.hid ((HCS.out _ _ _ _ _ _).2 ⟨[], HO.out, .inl ⟨by omega, rfl, by have := RS2.start (k5 := ⟨5, 167772162, 17, 8⟩) HC.out t; exact this⟩⟩)
    have HGb := Lib.hid (HG.out.below HB0.out); clear HG HO
    go_wp2_with fail
    go_loopw [23, 24] (fun g u wr => ∃ i : Nat, i ≤ M ∧ u = .int .i64 (i : Int) ∧ S62 b0 T ⟨167772161, 167772162, 17, 9, 8, false, false, 0, ⟨U.toArray⟩⟩ (68 + (z9 : Int)) t M i g wr) (fun _ u _ => M - (intOf u).toNat)
    case atStart => exact ⟨0, by omega, rfl, hS0.out⟩
    case round =>
        clear hS0
        obtain ⟨i, hi, rfl, hS⟩ := hrel
        obtain ⟨wo, rfl⟩ : ∃ wo : World, wo = wr := ⟨_, rfl⟩
        obtain ⟨A, hO, hA⟩ := (HCS.out _ _ _ _ _ _).1 hS
        have HO := Lib.hid hO; clear hO hS
        rcases hA with ⟨hlt, rfl, hR⟩ | ⟨rfl, rfl⟩
        · have hil : decide ((i : Int) < (M : Int)) = true := by simp; omega
          obtain ⟨A5, q5, ok5, err5, hput5, hR5⟩ := hR.foe (show Re.keyOf ⟨167772161, 167772162, 17, 9, 8, false, false, 0, ⟨U.toArray⟩⟩ ≠ ⟨5, 167772162, 17, 8⟩ from fun e => absurd (congrArg Re.Ky.f e) (by show ¬ ((167772161 : Int) = 5); decide)) 0 ⟨5, 167772162, 17, 9, 8, false, true, 0, S.extract 0 (8 * d)⟩ rfl
          have hAl := hR.len
          have HR := Lib.hid hR5; clear hR hR5
          have HP5 := Lib.hid (HO.out.put 0 ⟨5, 167772162, 17, 9, 8, false, true, 0, S.extract 0 (8 * d)⟩ A5 q5 ok5 err5 hput5 (by have := HSe.out; show (S.extract 0 (8 * d)).size ≤ _; omega) (.inl (by omega)) (by omega) ⟨by omega, by omega⟩)
          dsimp only at HP5
          clear hput5 hAl
          go_wp2_with fail
          refine HP5.out.mono ?_
          rintro e v0 ⟨rfl, hO', hz0, -⟩
          have HO' := Lib.hid (onet_K hO'); clear HO HP5 hO'; have HO := HO'; clear HO'
          unfold PutRes PkV
          have hwr : IntKind.i64.wrap ((i : Int) + (t : Int)) = (i : Int) + (t : Int) := IntWalk.i64_in _ (by omega)
          obtain ⟨k, hk⟩ : ∃ k, (i + t) % M = k := ⟨_, rfl⟩
          have hkM : k < M := by rw [← hk]; exact Nat.mod_lt _ hMp
          have hkm : ((i : Int) + (t : Int)).tmod (M : Int) = (k : Int) := by rw [Int.tmod_eq_emod_of_nonneg (by omega), ← hk, Int.natCast_emod, Int.natCast_add]
          have hkn : ((i : Int) + (t : Int)) % (M : Int) = (k : Int) := by rw [← hk, Int.natCast_emod, Int.natCast_add]
          have hMz : ¬ ((M : Int) = 0) := by omega
          have hk0 : (0 : Int) ≤ (k : Int) := by omega
          have hk1 : (k : Int) < (M : Int) := by omega
          have hkl : k < l.length := by rw [HM.out]; exact hkM
          obtain ⟨P, hP⟩ : ∃ P, l[k]? = some P := ⟨l[k], List.getElem?_eq_getElem hkl⟩
          obtain ⟨hPok, hPn, -⟩ := HAt.out k P hP
          obtain ⟨R, hRl, hPs, -, HEn, HDk⟩ := Ip.pkRt P.f P.t P.pr P.ttl P.id P.df P.mf P.off P.s hPok
          have hrow := Hrow.out.below HO.out.bel
          obtain ⟨r0, r1, r2, r3, r4, r5, r6, r7, r8⟩ := hrow.cells k P hP
          have hgl := hrow.lt
          have HP := Lib.hid hP; have HK := Lib.hid hk; clear hP hk hPok hrow
          have hok : Hid (Lk.FrOk 2 1 2 R.length) := Lib.hid ⟨by omega, by omega, .inr rfl, by omega⟩
          have hsum : IntKind.i64.wrap ((i : Int) + 1) = (i : Int) + 1 := IntWalk.i64_in _ (by omega)
          go_wp2_with fail
          clear r0 r1 r2 r3 r4 r5 r6 r7 r8 hgl
          refine (HEn.out _).mono ?_
          rintro e v1 ⟨rfl, hb1⟩
          have HO1 := Lib.hid (HO.out.below hb1); clear HO hb1; have HO := HO1; clear HO1; have hz := HO.out.bel.size
          have hh0 := (cell_of_block (k := 0) (bblock HO.out.bel Hh.out) rfl).1
          have hhl := blk_lt (bblock HO.out.bel Hh.out)
          go_wp2_with fail
          have hl1 := Lk.fenc_length 2 1 2 R
          refine (Lk.encode_fr 2 1 2 R _ a0 (HGb.out.below HO.out.bel) hok.out).mono ?_
          rintro e v2 ⟨rfl, hb2⟩
          clear hh0 hhl
          have HO1 := Lib.hid (HO.out.below hb2); clear HO hb2; have HO := HO1; clear HO1; have hz := HO.out.bel.size
          have HDF := Lib.hid (Lk.decode_fr 2 1 2 R _ a0 (HGb.out.below HO.out.bel) hok.out)
          generalize Lk.fenc 2 1 2 R = TL at *
          go_wp2_with fail
          refine HDF.out.mono ?_
          rintro e v3 ⟨rfl, hb3⟩
          have HO1 := Lib.hid (HO.out.below hb3); clear HO hb3; have HO := HO1; clear HO1; have hz := HO.out.bel.size
          have Hf := Lib.hid (alloc_new v3 (.cells #[.int .i64 2, .int .i64 1, .int .i64 2, .string ⟨R.toArray⟩] 56))
          have HO1 := Lib.hid (HO.out.below ((Below.refl v3.heap.size v3).alloc (Nat.le_refl _) (.cells #[.int .i64 2, .int .i64 1, .int .i64 2, .string ⟨R.toArray⟩] 56))); clear HO; have HO := HO1; clear HO1; have hz := HO.out.bel.size
          have qf0 := (cell_of_block (k := 0) Hf.out rfl).1; have qf1 := (cell_of_block (k := 1) Hf.out rfl).1; have qf2 := (cell_of_block (k := 2) Hf.out rfl).1; have qf3 := (cell_of_block (k := 3) Hf.out rfl).1; have lt_f := blk_lt Hf.out; have hsf : v3.heap.size + 1 = (v3.alloc (.cells #[.int .i64 2, .int .i64 1, .int .i64 2, .string ⟨R.toArray⟩] 56)).heap.size := by simp
          go_wp2_with fail
          refine (HDk.out _).mono ?_
          rintro e v4 ⟨rfl, hb4⟩
          clear qf0 qf1 qf2 qf3
          have HO1 := Lib.hid (HO.out.below hb4); clear HO hb4; have HO := HO1; clear HO1; have hz := HO.out.bel.size
          have Hb := Lib.hid (alloc_new v4 (.cells #[.int .i64 P.f, .int .i64 P.t, .int .i64 P.pr, .int .i64 P.ttl, .int .i64 P.id, .bool P.df, .bool P.mf, .int .i64 P.off, .string P.s] 48))
          have HO1 := Lib.hid (HO.out.below ((Below.refl v4.heap.size v4).alloc (Nat.le_refl _) (.cells #[.int .i64 P.f, .int .i64 P.t, .int .i64 P.pr, .int .i64 P.ttl, .int .i64 P.id, .bool P.df, .bool P.mf, .int .i64 P.off, .string P.s] 48))); clear HO; have HO := HO1; clear HO1; have hz := HO.out.bel.size
          have qb0 := (cell_of_block (k := 0) Hb.out rfl).1; have qb1 := (cell_of_block (k := 1) Hb.out rfl).1; have qb2 := (cell_of_block (k := 2) Hb.out rfl).1; have qb3 := (cell_of_block (k := 3) Hb.out rfl).1; have qb4 := (cell_of_block (k := 4) Hb.out rfl).1; have qb5 := (cell_of_block (k := 5) Hb.out rfl).1; have qb6 := (cell_of_block (k := 6) Hb.out rfl).1; have qb7 := (cell_of_block (k := 7) Hb.out rfl).1; have qb8 := (cell_of_block (k := 8) Hb.out rfl).1; have lt_b := blk_lt Hb.out; have hsb : v4.heap.size + 1 = (v4.alloc (.cells #[.int .i64 P.f, .int .i64 P.t, .int .i64 P.pr, .int .i64 P.ttl, .int .i64 P.id, .bool P.df, .bool P.mf, .int .i64 P.off, .string P.s] 48)).heap.size := by simp
          obtain ⟨A', hput⟩ := HR.out.put HC.out (by rw [HLL.out, HM.out]; exact hlt) 0 P (by rw [HLL.out, HM.out, HK.out]; exact HP.out)
          have hAl := HR.out.len
          go_wp2_with fail
          rw [HLL.out, HM.out] at hput
          rcases hput with ⟨hlast, he⟩ | ⟨hno, he, hR2⟩
          · refine (HO.out.put 0 P A' ⟨167772161, 167772162, 17, 9, 8, false, false, 0, ⟨U.toArray⟩⟩ true 0 he (by omega) (.inl (by omega)) (by omega) ⟨by omega, by omega⟩).mono ?_
            rintro e v5 ⟨rfl, hO', hz5, -⟩
            have HO' := Lib.hid (onet_K hO'); clear HO hO'; have HO := HO'; clear HO'
            unfold PutRes PkV
            have hisl : (((i : Int) + 1) == (M : Int)) = true := by rw [beq_iff_eq]; omega
            clear qb0 qb1 qb2 qb3 qb4 qb5 qb6 qb7 qb8
            go_wp2_with fail
            exact ⟨⟨i + 1, by omega, by go_num, (HCS.out _ _ _ _ _ _).2 ⟨A', HO.out.below ((Below.refl _ _).alloc (Nat.le_refl _) _), .inr ⟨hlast, rfl⟩⟩⟩, by simp [intOf]; omega⟩
          · refine (HO.out.put 0 P A' Re.pk0 false 0 he (by omega) (.inl (by omega)) (by omega) ⟨by omega, by omega⟩).mono ?_
            rintro e v5 ⟨rfl, hO', hz5, -⟩
            have HO' := Lib.hid (onet_K hO'); clear HO hO'; have HO := HO'; clear HO'
            unfold PutRes PkV
            have hisl : (((i : Int) + 1) == (M : Int)) = false := by rw [beq_eq_false_iff_ne]; omega
            clear qb0 qb1 qb2 qb3 qb4 qb5 qb6 qb7 qb8
            go_wp2_with fail
            exact ⟨⟨i + 1, by omega, by go_num, (HCS.out _ _ _ _ _ _).2 ⟨A', HO.out.below ((Below.refl _ _).alloc (Nat.le_refl _) _), .inl ⟨hno, rfl, hR2⟩⟩⟩, by simp [intOf]; omega⟩
        · have hil : decide ((i : Int) < (i : Int)) = false := by simp
          have hb := HO.out.bel
          have HB := HB0.out; clear HB0 HO HC
          clear Hrow HAt HLL HM hMp hMl hM0
          have Hx' := Lib.hid (bblock hb Hx.out); clear Hx; have Hx := Hx'; clear Hx'
          have Hh' := Lib.hid (bblock hb Hh.out); clear Hh; have Hh := Hh'; clear Hh'
          have HAx' := Lib.hid (HAx.out.below hb); clear HAx; have HAx := HAx'; clear HAx'
          have HB' := below_call HB hb; clear HB hb; have HB := HB'; clear HB'; have hz := HB.size
          have Sh := cells5 Hh.out
          obtain ⟨⟨qh0, qh1, qh2, qh3, qh4⟩, zh0, zh1, zh2, zh3, zh4⟩ := Sh
          have lt_h := blk_lt Hh.out
          go_wp2_with fail
          refine (HUD.out _).mono ?_
          rintro e w1 ⟨rfl, hb⟩
          clear qh0 zh0 qh1 zh1 qh2 zh2 qh3 zh3 qh4 zh4
          have Hx' := Lib.hid (bblock hb Hx.out); clear Hx; have Hx := Hx'; clear Hx'
          have Hh' := Lib.hid (bblock hb Hh.out); clear Hh; have Hh := Hh'; clear Hh'
          have HAx' := Lib.hid (HAx.out.below hb); clear HAx; have HAx := HAx'; clear HAx'
          have HB' := below_call HB hb; clear HB hb; have HB := HB'; clear HB'; have hz1 := HB.size
          have lt_x_1 := blk_lt Hx.out
          have lt_h_1 := blk_lt Hh.out
          have Hv := Lib.hid (alloc_new' w1 (.cells #[.int .i64 53, .int .i64 20101, .string ⟨E.toArray⟩] 43) (w1.heap.size) (by simp))
          have Hx' := Lib.hid (block_alloc Hx.out (.cells #[.int .i64 53, .int .i64 20101, .string ⟨E.toArray⟩] 43)); clear Hx; have Hx := Hx'; clear Hx'
          have Hh' := Lib.hid (block_alloc Hh.out (.cells #[.int .i64 53, .int .i64 20101, .string ⟨E.toArray⟩] 43)); clear Hh; have Hh := Hh'; clear Hh'
          have HAx' := Lib.hid (HAx.out.alloc (.cells #[.int .i64 53, .int .i64 20101, .string ⟨E.toArray⟩] 43)); clear HAx; have HAx := HAx'; clear HAx'
          have HB' := below_alloc (o := .cells #[.int .i64 53, .int .i64 20101, .string ⟨E.toArray⟩] 43) HB; clear HB; have HB := HB'; clear HB'
          have Sv := cells3 Hv.out
          obtain ⟨⟨qv0, qv1, qv2⟩, zv0, zv1, zv2⟩ := Sv
          have lt_v := blk_lt Hv.out
          go_wp2_with fail
          refine (HD.out _).mono ?_
          rintro e w2 ⟨⟨A3, c3, rfl, hr3⟩, hb⟩
          clear qv0 zv0 qv1 zv1 qv2 zv2
          have Hx' := Lib.hid (bblock hb Hx.out); clear Hx; have Hx := Hx'; clear Hx'
          have Hh' := Lib.hid (bblock hb Hh.out); clear Hh; have Hh := Hh'; clear Hh'
          have Hv' := Lib.hid (bblock hb Hv.out); clear Hv; have Hv := Hv'; clear Hv'
          have HAx' := Lib.hid (HAx.out.below hb); clear HAx; have HAx := HAx'; clear HAx'
          have HB' := below_call HB hb; clear HB hb; have HB := HB'; clear HB'; have hz2 := HB.size
          have lt_x_2 := blk_lt Hx.out
          have lt_h_2 := blk_lt Hh.out
          have lt_v_2 := blk_lt Hv.out
          have Hr3 := Lib.hid hr3; clear hr3
          have Hd := Lib.hid (alloc_new' w2 (.cells #[.int .i64 d1.id, .bool d1.ans, .int .i64 d1.code, .string ⟨d1.nm.toArray⟩, .int .i64 d1.kd, .slice A3 d1.recs.length c3] 39) (w2.heap.size) (by simp))
          have Hx' := Lib.hid (block_alloc Hx.out (.cells #[.int .i64 d1.id, .bool d1.ans, .int .i64 d1.code, .string ⟨d1.nm.toArray⟩, .int .i64 d1.kd, .slice A3 d1.recs.length c3] 39)); clear Hx; have Hx := Hx'; clear Hx'
          have Hh' := Lib.hid (block_alloc Hh.out (.cells #[.int .i64 d1.id, .bool d1.ans, .int .i64 d1.code, .string ⟨d1.nm.toArray⟩, .int .i64 d1.kd, .slice A3 d1.recs.length c3] 39)); clear Hh; have Hh := Hh'; clear Hh'
          have Hv' := Lib.hid (block_alloc Hv.out (.cells #[.int .i64 d1.id, .bool d1.ans, .int .i64 d1.code, .string ⟨d1.nm.toArray⟩, .int .i64 d1.kd, .slice A3 d1.recs.length c3] 39)); clear Hv; have Hv := Hv'; clear Hv'
          have HAx' := Lib.hid (HAx.out.alloc (.cells #[.int .i64 d1.id, .bool d1.ans, .int .i64 d1.code, .string ⟨d1.nm.toArray⟩, .int .i64 d1.kd, .slice A3 d1.recs.length c3] 39)); clear HAx; have HAx := HAx'; clear HAx'
          have Hr3' := Lib.hid (Hr3.out.alloc (.cells #[.int .i64 d1.id, .bool d1.ans, .int .i64 d1.code, .string ⟨d1.nm.toArray⟩, .int .i64 d1.kd, .slice A3 d1.recs.length c3] 39)); clear Hr3; have Hr3 := Hr3'; clear Hr3'
          have HB' := below_alloc (o := .cells #[.int .i64 d1.id, .bool d1.ans, .int .i64 d1.code, .string ⟨d1.nm.toArray⟩, .int .i64 d1.kd, .slice A3 d1.recs.length c3] 39) HB; clear HB; have HB := HB'; clear HB'
          go_upto_region 30 with fail
          have HR := Below.refl (w2.alloc (.cells #[.int .i64 d1.id, .bool d1.ans, .int .i64 d1.code, .string ⟨d1.nm.toArray⟩, .int .i64 d1.kd, .slice A3 d1.recs.length c3] 39)).heap.size (w2.alloc (.cells #[.int .i64 d1.id, .bool d1.ans, .int .i64 d1.code, .string ⟨d1.nm.toArray⟩, .int .i64 d1.kd, .slice A3 d1.recs.length c3] 39))
          have gd0 : Hid ((w2.alloc (.cells #[.int .i64 d1.id, .bool d1.ans, .int .i64 d1.code, .string ⟨d1.nm.toArray⟩, .int .i64 d1.kd, .slice A3 d1.recs.length c3] 39)).cell? ⟨w2.heap.size, 0, none⟩ = some (.int .i64 d1.id)) := Lib.hid (cell_of_block (k := 0) Hd.out rfl).1
          have gd1 : Hid ((w2.alloc (.cells #[.int .i64 d1.id, .bool d1.ans, .int .i64 d1.code, .string ⟨d1.nm.toArray⟩, .int .i64 d1.kd, .slice A3 d1.recs.length c3] 39)).cell? ⟨w2.heap.size, 1, none⟩ = some (.bool d1.ans)) := Lib.hid (cell_of_block (k := 1) Hd.out rfl).1
          have gd2 : Hid ((w2.alloc (.cells #[.int .i64 d1.id, .bool d1.ans, .int .i64 d1.code, .string ⟨d1.nm.toArray⟩, .int .i64 d1.kd, .slice A3 d1.recs.length c3] 39)).cell? ⟨w2.heap.size, 2, none⟩ = some (.int .i64 d1.code)) := Lib.hid (cell_of_block (k := 2) Hd.out rfl).1
          have gd3 : Hid ((w2.alloc (.cells #[.int .i64 d1.id, .bool d1.ans, .int .i64 d1.code, .string ⟨d1.nm.toArray⟩, .int .i64 d1.kd, .slice A3 d1.recs.length c3] 39)).cell? ⟨w2.heap.size, 3, none⟩ = some (.string ⟨d1.nm.toArray⟩)) := Lib.hid (cell_of_block (k := 3) Hd.out rfl).1
          have gd4 : Hid ((w2.alloc (.cells #[.int .i64 d1.id, .bool d1.ans, .int .i64 d1.code, .string ⟨d1.nm.toArray⟩, .int .i64 d1.kd, .slice A3 d1.recs.length c3] 39)).cell? ⟨w2.heap.size, 4, none⟩ = some (.int .i64 d1.kd)) := Lib.hid (cell_of_block (k := 4) Hd.out rfl).1
          have gd5 : Hid ((w2.alloc (.cells #[.int .i64 d1.id, .bool d1.ans, .int .i64 d1.code, .string ⟨d1.nm.toArray⟩, .int .i64 d1.kd, .slice A3 d1.recs.length c3] 39)).cell? ⟨w2.heap.size, 5, none⟩ = some (.slice A3 d1.recs.length c3)) := Lib.hid (cell_of_block (k := 5) Hd.out rfl).1
          have gx0 : Hid ((w2.alloc (.cells #[.int .i64 d1.id, .bool d1.ans, .int .i64 d1.code, .string ⟨d1.nm.toArray⟩, .int .i64 d1.kd, .slice A3 d1.recs.length c3] 39)).cell? ⟨w.heap.size, 0, none⟩ = some (.int .i64 x.id)) := Lib.hid (cell_of_block (k := 0) Hx.out rfl).1
          have gx1 : Hid ((w2.alloc (.cells #[.int .i64 d1.id, .bool d1.ans, .int .i64 d1.code, .string ⟨d1.nm.toArray⟩, .int .i64 d1.kd, .slice A3 d1.recs.length c3] 39)).cell? ⟨w.heap.size, 1, none⟩ = some (.bool x.ans)) := Lib.hid (cell_of_block (k := 1) Hx.out rfl).1
          have gx2 : Hid ((w2.alloc (.cells #[.int .i64 d1.id, .bool d1.ans, .int .i64 d1.code, .string ⟨d1.nm.toArray⟩, .int .i64 d1.kd, .slice A3 d1.recs.length c3] 39)).cell? ⟨w.heap.size, 2, none⟩ = some (.int .i64 x.code)) := Lib.hid (cell_of_block (k := 2) Hx.out rfl).1
          have gx3 : Hid ((w2.alloc (.cells #[.int .i64 d1.id, .bool d1.ans, .int .i64 d1.code, .string ⟨d1.nm.toArray⟩, .int .i64 d1.kd, .slice A3 d1.recs.length c3] 39)).cell? ⟨w.heap.size, 3, none⟩ = some (.int .i64 x.nm)) := Lib.hid (cell_of_block (k := 3) Hx.out rfl).1
          have gx4 : Hid ((w2.alloc (.cells #[.int .i64 d1.id, .bool d1.ans, .int .i64 d1.code, .string ⟨d1.nm.toArray⟩, .int .i64 d1.kd, .slice A3 d1.recs.length c3] 39)).cell? ⟨w.heap.size, 4, none⟩ = some (.bool x.alias)) := Lib.hid (cell_of_block (k := 4) Hx.out rfl).1
          have gx5 : Hid ((w2.alloc (.cells #[.int .i64 d1.id, .bool d1.ans, .int .i64 d1.code, .string ⟨d1.nm.toArray⟩, .int .i64 d1.kd, .slice A3 d1.recs.length c3] 39)).cell? ⟨w.heap.size, 5, none⟩ = some (.slice Ax nx cx)) := Lib.hid (cell_of_block (k := 5) Hx.out rfl).1
          have gv0 : Hid ((w2.alloc (.cells #[.int .i64 d1.id, .bool d1.ans, .int .i64 d1.code, .string ⟨d1.nm.toArray⟩, .int .i64 d1.kd, .slice A3 d1.recs.length c3] 39)).cell? ⟨w1.heap.size, 0, none⟩ = some (.int .i64 53)) := Lib.hid (cell_of_block (k := 0) Hv.out rfl).1
          have gv1 : Hid ((w2.alloc (.cells #[.int .i64 d1.id, .bool d1.ans, .int .i64 d1.code, .string ⟨d1.nm.toArray⟩, .int .i64 d1.kd, .slice A3 d1.recs.length c3] 39)).cell? ⟨w1.heap.size, 1, none⟩ = some (.int .i64 20101)) := Lib.hid (cell_of_block (k := 1) Hv.out rfl).1
          have gv2 : Hid ((w2.alloc (.cells #[.int .i64 d1.id, .bool d1.ans, .int .i64 d1.code, .string ⟨d1.nm.toArray⟩, .int .i64 d1.kd, .slice A3 d1.recs.length c3] 39)).cell? ⟨w1.heap.size, 2, none⟩ = some (.string ⟨E.toArray⟩)) := Lib.hid (cell_of_block (k := 2) Hv.out rfl).1
          go_region_held3 (fun w' => w'.cell? ⟨w2.heap.size, 0, none⟩ = some (.int .i64 d1.id) ∧ w'.cell? ⟨w2.heap.size, 1, none⟩ = some (.bool d1.ans) ∧ w'.cell? ⟨w2.heap.size, 2, none⟩ = some (.int .i64 d1.code) ∧ w'.cell? ⟨w2.heap.size, 3, none⟩ = some (.string ⟨d1.nm.toArray⟩) ∧ w'.cell? ⟨w2.heap.size, 4, none⟩ = some (.int .i64 d1.kd) ∧ w'.cell? ⟨w2.heap.size, 5, none⟩ = some (.slice A3 d1.recs.length c3) ∧ w'.cell? ⟨w.heap.size, 0, none⟩ = some (.int .i64 x.id) ∧ w'.cell? ⟨w.heap.size, 1, none⟩ = some (.bool x.ans) ∧ w'.cell? ⟨w.heap.size, 2, none⟩ = some (.int .i64 x.code) ∧ w'.cell? ⟨w.heap.size, 3, none⟩ = some (.int .i64 x.nm) ∧ w'.cell? ⟨w.heap.size, 4, none⟩ = some (.bool x.alias) ∧ w'.cell? ⟨w.heap.size, 5, none⟩ = some (.slice Ax nx cx) ∧ w'.cell? ⟨w1.heap.size, 0, none⟩ = some (.int .i64 53) ∧ w'.cell? ⟨w1.heap.size, 1, none⟩ = some (.int .i64 20101) ∧ w'.cell? ⟨w1.heap.size, 2, none⟩ = some (.string ⟨E.toArray⟩) ∧ Below (w2.alloc (.cells #[.int .i64 d1.id, .bool d1.ans, .int .i64 d1.code, .string ⟨d1.nm.toArray⟩, .int .i64 d1.kd, .slice A3 d1.recs.length c3] 39)).heap.size (w2.alloc (.cells #[.int .i64 d1.id, .bool d1.ans, .int .i64 d1.code, .string ⟨d1.nm.toArray⟩, .int .i64 d1.kd, .slice A3 d1.recs.length c3] 39)) w') (first | with_reducible exact ⟨bcell (hRz2.out) gd0.out, bcell (hRz2.out) gd1.out, bcell (hRz2.out) gd2.out, bcell (hRz2.out) gd3.out, bcell (hRz2.out) gd4.out, bcell (hRz2.out) gd5.out, bcell (hRz2.out) gx0.out, bcell (hRz2.out) gx1.out, bcell (hRz2.out) gx2.out, bcell (hRz2.out) gx3.out, bcell (hRz2.out) gx4.out, bcell (hRz2.out) gx5.out, bcell (hRz2.out) gv0.out, bcell (hRz2.out) gv1.out, bcell (hRz2.out) gv2.out, hRz2.out⟩ | with_reducible exact ⟨bcell (hRz1.out) gd0.out, bcell (hRz1.out) gd1.out, bcell (hRz1.out) gd2.out, bcell (hRz1.out) gd3.out, bcell (hRz1.out) gd4.out, bcell (hRz1.out) gd5.out, bcell (hRz1.out) gx0.out, bcell (hRz1.out) gx1.out, bcell (hRz1.out) gx2.out, bcell (hRz1.out) gx3.out, bcell (hRz1.out) gx4.out, bcell (hRz1.out) gx5.out, bcell (hRz1.out) gv0.out, bcell (hRz1.out) gv1.out, bcell (hRz1.out) gv2.out, hRz1.out⟩ | exact ⟨gd0.out, gd1.out, gd2.out, gd3.out, gd4.out, gd5.out, gx0.out, gx1.out, gx2.out, gx3.out, gx4.out, gx5.out, gv0.out, gv1.out, gv2.out, HR.drew⟩)
            (first | (go_at_call 19; have _t := hRz1; clear _t; refine (HS.out _ _ _ _ _ _ _ (SRow.below Hr3.out hRz1.out) hr5).mono ?_; rintro e z2 ⟨rfl, hbz2⟩; have hRz2 := Lib.hid (below_call hRz1.out hbz2)) | (go_at_call 8; refine (HX.out _ (HAx.out.below HR.drew)).mono ?_; rintro e z1 ⟨A5, c5, rfl, hr5, hbz1⟩; have hRz1 := Lib.hid (below_call HR.drew hbz1)))
          have hb := hRz2.out
          clear HR hRz1 hbz1 hRz2 hbz2 gd0 gd1 gd2 gd3 gd4 gd5 gx0 gx1 gx2 gx3 gx4 gx5 gv0 gv1 gv2
          have Hx' := Lib.hid (bblock hb Hx.out); clear Hx; have Hx := Hx'; clear Hx'
          have Hh' := Lib.hid (bblock hb Hh.out); clear Hh; have Hh := Hh'; clear Hh'
          have Hv' := Lib.hid (bblock hb Hv.out); clear Hv; have Hv := Hv'; clear Hv'
          have Hd' := Lib.hid (bblock hb Hd.out); clear Hd; have Hd := Hd'; clear Hd'
          have HAx' := Lib.hid (HAx.out.below hb); clear HAx; have HAx := HAx'; clear HAx'
          have Hr3' := Lib.hid (Hr3.out.below hb); clear Hr3; have Hr3 := Hr3'; clear Hr3'
          have HB' := below_call HB hb; clear HB hb; have HB := HB'; clear HB'; have hz := HB.size
          go_wp2_with fail
          go_ret
          exact ⟨rfl, HB⟩
end Go.Proofs.YtmgjcjacoegocaaGreatDoor.Dn
