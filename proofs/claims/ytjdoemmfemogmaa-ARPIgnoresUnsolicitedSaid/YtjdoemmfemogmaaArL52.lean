/-
  The walk of the law ARPIgnoresUnsolicited.
-/
import Derived.Test.YtjdoemmfemogmaaArSan
import Derived.Test.YtjdoemmfemogmaaArArgL
import Derived.Test.YtjdoemmfemogmaaStore
import Derived.Deep.DeepCutAuto
namespace Go.Proofs.Ytjdoemmfemogmaa.Ar
set_option maxRecDepth 100000
open Go.RowKit Go.Proofs.Ytjdoemmfemogmaa.Wire

/-- a message that meets no incomplete entry changes no entry -/
theorem recv_quiet (c : Tc) (A : AL) (now : Int) (X : Am) (hA : ∀ h s f l, look A X.f ≠ some (.inc h s f l)) (hn : In64 now) (hc : In64 c.at_) : ∃ c' out, recvA c A now X = (c', A, out, []) ∧ out.length ≤ 1 ∧ c'.own = c.own ∧ c'.mac = c.mac ∧ In64 c'.at_ := by
  unfold recvA
  by_cases h1 : X.ok
  case neg => rw [if_pos h1]; exact ⟨c, [], rfl, by simp, rfl, rfl, hc⟩
  rw [if_neg (fun q => q h1)]
  by_cases h2 : X.f = c.own
  · rw [if_pos h2]
    by_cases h3 : X.fm = c.mac
    · rw [if_pos h3]; exact ⟨c, [], rfl, by simp, rfl, rfl, hc⟩
    · rw [if_neg h3]
      refine ⟨_, _, rfl, ?_, ?_, ?_, ?_⟩ <;> unfold defA <;> split <;> first | exact hc | exact hn | rfl | simp
  · rw [if_neg h2]
    by_cases h3 : X.t ≠ c.own
    · rw [if_pos h3]; exact ⟨c, [], rfl, by simp, rfl, rfl, hc⟩
    · rw [if_neg h3]
      cases hl : look A X.f with
      | none => exact ⟨c, _, rfl, by split <;> simp, rfl, rfl, hc⟩
      | some v =>
        cases v with
        | inc h s f l => exact absurd hl (hA h s f l)
        | res m s u => exact ⟨c, _, rfl, by split <;> simp, rfl, rfl, hc⟩
theorem look_one (a k m s u : Int) : look [(a, .res m s u)] k = if a = k then some (.res m s u) else none := by
  unfold look
  by_cases h : a = k <;> simp [h]
def C5 (X : Am) : List Value := [.int .i64 X.op, .int .i64 X.f, .int .i64 X.fm, .int .i64 X.t, .int .i64 X.tm]
set_option maxHeartbeats 8000000 in
theorem unsol_law (to_ mac : Int) (A : Option Addr) (nt ct : Nat) (tl : List Cl) (w : World) (hA : ArgC w A nt tl) (ht : In64 to_) (hm : In64 mac) :
    Calls Try.prog 5 #[.int .i64 to_, .int .i64 mac, .slice A nt ct] w fun x w' => x = .returned (.bool true) ∧ Below w.heap.size w w' := by
  have HA := Lib.hid hA
  have hnt := hA.size
  have h23 := tdiv_in to_ 23 (by omega) ht
  have P1 := Lib.hid (fun W => pick_any to_ 23 W ht (by omega) (by omega))
  have P2 := Lib.hid (fun W => pick_any mac 9 W hm (by omega) (by omega))
  have P3 := Lib.hid (fun W => pick_any (to_.tdiv 23) 23 W h23 (by omega) (by omega))
  have b1 := pick_lt to_ 23 (by omega); have b2 := pick_lt mac 9 (by omega); have b3 := pick_lt (to_.tdiv 23) 23 (by omega)
  generalize pick to_ 23 = z1 at *
  generalize pick mac 9 = z2 at *
  generalize pick (to_.tdiv 23) 23 = z3 at *
  have hw1 : IntKind.i64.wrap (11 + z1) = 11 + z1 := IntWalk.i64_in _ (by omega)
  have hw2 : IntKind.i64.wrap (1 + z2) = 1 + z2 := IntWalk.i64_in _ (by omega)
  have hw3 : IntKind.i64.wrap (11 + z3) = 11 + z3 := IntWalk.i64_in _ (by omega)
  unfold In64 at h23
  have hwt : IntKind.i64.wrap (to_.tdiv 23) = to_.tdiv 23 := IntWalk.i64_in _ (by omega)
  clear hA ht hm
  go_enter Try.func5, Try.ntmps5
  go_wp2_with fail
  refine (sanity_any _).mono ?_
  rintro x w1 ⟨rfl, hb1⟩
  go_wp2_with fail
  refine (new_any 10 5 _).mono ?_
  rintro x w2 (⟨-, -, rfl, hw2⟩ | ⟨hb, -, -⟩)
  case inr => rcases hb with hb | hb <;> cases hb
  have HO : Hid (OneA w w1.heap.size ⟨10, 5, false, 0⟩ [] (fun _ => False) w2) := Lib.hid (by rw [hw2]; exact (OneA.ofNew hb1 10 5).more (fun q hq => hq.elim))
  obtain ⟨T, hT⟩ : ∃ T, w1.heap.size = T := ⟨_, rfl⟩
  rw [hT] at HO ⊢
  clear hw2 hT hb1
  go_wp2_with fail
  refine (P1.out _).mono ?_
  rintro x w' ⟨rfl, rfl⟩
  go_wp2_with fail
  refine (P2.out _).mono ?_
  rintro x w' ⟨rfl, rfl⟩
  obtain ⟨a, ha⟩ : ∃ a, 11 + z1 = a := ⟨_, rfl⟩
  obtain ⟨m, hmm⟩ : ∃ m, 1 + z2 = m := ⟨_, rfl⟩
  have hab : 11 ≤ a ∧ a ≤ 33 := by omega
  have hmb : 1 ≤ m ∧ m ≤ 9 := by omega
  have i0 : In64 0 := by unfold In64; omega
  have i1 : In64 1 := by unfold In64; omega
  go_upto_region 5 with fail
  have HAE := Lib.hid ha
  clear ha hmm hw1 hw2
  have hs1 : sendA ⟨10, 5, false, 0⟩ [] 0 a ⟨#[120]⟩ = ([(a, .inc [⟨#[120]⟩] 1 0 0)], 0, [⟨1, 10, 5, a, 0⟩], 0) := by
    unfold sendA
    rw [if_neg]
    · rfl
    · rintro (q | q | q)
      · unfold uniB at q; rw [decide_eq_false_iff_not] at q; omega
      · dsimp only at q; omega
      · revert q; decide
  have hr1 : recvA ⟨10, 5, false, 0⟩ [(a, .inc [⟨#[120]⟩] 1 0 0)] 1 ⟨2, a, m, 10, 5⟩ = (⟨10, 5, false, 0⟩, [(a, .res m 1 1)], [], [⟨a, m, ⟨#[120]⟩⟩]) := by
    unfold recvA
    have hok : (⟨2, a, m, 10, 5⟩ : Am).ok := by unfold Am.ok; dsimp only; omega
    rw [if_neg (fun q => q hok), if_neg (by dsimp only; omega), if_neg (by simp)]
    simp [look, upd]
  go_wp2_with fail
  refine (HO.out.send 0 a ⟨#[120]⟩ _ _ _ _ hs1 (by simp [ByteArray.size]) i0 (by simp)).mono ?_
  rintro x w3 ⟨B3, k3, rfl, -, ho, -⟩
  have HO3 := Lib.hid (ho.more (K' := fun _ => False) (fun q hq => hq.elim))
  clear ho HO hs1
  go_wp2_with fail
  refine (HO3.out.recv 1 2 a m 10 5 _ _ _ _ hr1 i1 i0).mono ?_
  rintro x w4 ⟨B4, k4, D4, d4, rfl, -, -, ho, -⟩
  have HO4 := Lib.hid (ho.more (K' := fun _ => False) (fun q hq => hq.elim))
  clear ho HO3 hr1
  go_wp2_with fail
  go_loopw [14] (fun i wr => ∃ (k : Nat) (c : Tc), k ≤ nt ∧ k ≤ 40 ∧ i = .int .i64 (k : Int) ∧ c.own = 10 ∧ c.mac = 5 ∧ In64 c.at_ ∧ OneA w T c [(a, .res m 1 1)] (fun _ => False) wr) (fun i _ => 40 - (Go.RowKit.intOf i).toNat)
  case atStart => exact ⟨0, ⟨10, 5, false, 0⟩, by omega, by omega, rfl, rfl, rfl, i0, HO4.out⟩
  case round =>
    clear HO4
    obtain ⟨k, c, hk, hk40, rfl, hc1, hc2, hc3, ho⟩ := hrel
    have HO := Lib.hid ho; have HC1 := Lib.hid hc1; have HC2 := Lib.hid hc2; have HC3 := Lib.hid hc3; clear ho hc1 hc2 hc3
    obtain ⟨wx, rfl⟩ : ∃ wo : World, wo = wr := ⟨_, rfl⟩
    by_cases hend : k = nt ∨ k = 40
    · have HKN := HO.out.known a (.tuple #[.int .i64 m, .bool true]) (by rw [look_one]; simp [knownV])
      have HSZ := HO.out.sizes 1 0 rfl rfl (by omega)
      have HKN := Lib.hid HKN; have HSZ := Lib.hid HSZ
      clear P1 P2
      by_cases q : k = nt
      · have d1 : decide ((k : Int) < (nt : Int)) = false := decide_eq_false (by omega)
        have q1 : ¬ k < nt := by omega
        go_wp2_with fail
        all_goals first | (exfalso; omega) | skip
        refine HKN.out.mono ?_
        rintro x9 w' ⟨rfl, rfl⟩
        go_wp2_with fail
        refine HSZ.out.mono ?_
        rintro x9 w9 ⟨rfl, hb9⟩
        have HO9 := Lib.hid (HO.out.below hb9)
        clear hb9
        go_wp2_with fail
        refine (P3.out _).mono ?_
        rintro x9 w' ⟨rfl, rfl⟩
        obtain ⟨b, hbb⟩ : ∃ b, 11 + z3 = b := ⟨_, rfl⟩
        have hw3' : IntKind.i64.wrap (11 + z3) = b := hw3.trans hbb
        have HBB := Lib.hid hbb
        clear hw3 hbb
        by_cases hab2 : a = b
        · subst hab2
          have hv := HO9.out.known a (.tuple #[.int .i64 m, .bool true]) (by rw [look_one]; simp [knownV])
          go_wp2_with fail
          refine hv.mono ?_
          rintro x9 w' ⟨rfl, rfl⟩
          go_wp2_with fail
          go_ret
          exact ⟨rfl, HO9.out.bel⟩
        · have hv := HO9.out.known b (.tuple #[.int .i64 0, .bool false]) (by rw [look_one, if_neg hab2]; rfl)
          have e9 : (a == b) = false := beq_eq_false_iff_ne.2 hab2
          go_wp2_with fail
          refine hv.mono ?_
          rintro x9 w' ⟨rfl, rfl⟩
          go_wp2_with fail
          go_ret
          exact ⟨rfl, HO9.out.bel⟩
      · have d1 : decide ((k : Int) < (nt : Int)) = true := decide_eq_true (by omega)
        have q1 : k < nt := by omega
        have d2 : decide ((k : Int) < 40) = false := decide_eq_false (by omega)
        have q2 : ¬ k < 40 := by omega
        go_wp2_with fail
        all_goals first | (exfalso; omega) | skip
        refine HKN.out.mono ?_
        rintro x9 w' ⟨rfl, rfl⟩
        go_wp2_with fail
        refine HSZ.out.mono ?_
        rintro x9 w9 ⟨rfl, hb9⟩
        have HO9 := Lib.hid (HO.out.below hb9)
        clear hb9
        go_wp2_with fail
        refine (P3.out _).mono ?_
        rintro x9 w' ⟨rfl, rfl⟩
        obtain ⟨b, hbb⟩ : ∃ b, 11 + z3 = b := ⟨_, rfl⟩
        have hw3' : IntKind.i64.wrap (11 + z3) = b := hw3.trans hbb
        have HBB := Lib.hid hbb
        clear hw3 hbb
        by_cases hab2 : a = b
        · subst hab2
          have hv := HO9.out.known a (.tuple #[.int .i64 m, .bool true]) (by rw [look_one]; simp [knownV])
          go_wp2_with fail
          refine hv.mono ?_
          rintro x9 w' ⟨rfl, rfl⟩
          go_wp2_with fail
          go_ret
          exact ⟨rfl, HO9.out.bel⟩
        · have hv := HO9.out.known b (.tuple #[.int .i64 0, .bool false]) (by rw [look_one, if_neg hab2]; rfl)
          have e9 : (a == b) = false := beq_eq_false_iff_ne.2 hab2
          go_wp2_with fail
          refine hv.mono ?_
          rintro x9 w' ⟨rfl, rfl⟩
          go_wp2_with fail
          go_ret
          exact ⟨rfl, HO9.out.bel⟩
    · have d1 : decide ((k : Int) < (nt : Int)) = true := decide_eq_true (by omega)
      have d2 : decide ((k : Int) < 40) = true := decide_eq_true (by omega)
      have q1 : k < nt := by omega
      have q2 : k < 40 := by omega
      have k0 : (0 : Int) ≤ (k : Int) := by omega
      have k1 : (k : Int) < (nt : Int) := by omega
      obtain ⟨ab, ao, x, hAe, htl, hab, hx, c0, c1, c2, c3, c4, c5, c6, c7, c8, c9, c10, c11⟩ := (HA.out.below HO.out.bel).at_ k (by omega)
      subst hAe
      have PM := Lib.hid (fun W => message_any ((x.kd : Nat) : Int) x.ad x.mc x.to_ x.op x.s x.ti x.a0 x.a1 x.a2 x.a3 x.a4 W hx.2.1 hx.2.2.1 hx.2.2.2.1 hx.2.2.2.2.1)
      generalize msgC x.ad x.mc x.to_ x.op = M at *
      obtain ⟨m0, m1, m2, m3, m4⟩ := M
      go_wp2_with fail
      refine (PM.out _).mono ?_
      rintro x9 w5 ⟨rfl, hb5⟩
      have HB5 := Lib.hid hb5
      have e0 := cell_alloc' (.cells #[.int .i64 m0, .int .i64 m1, .int .i64 m2, .int .i64 m3, .int .i64 m4] 23) (bcell hb5 c0)
      have e7 := cell_alloc' (.cells #[.int .i64 m0, .int .i64 m1, .int .i64 m2, .int .i64 m3, .int .i64 m4] 23) (bcell hb5 c7)
      have e8 := cell_alloc' (.cells #[.int .i64 m0, .int .i64 m1, .int .i64 m2, .int .i64 m3, .int .i64 m4] 23) (bcell hb5 c8)
      have e9 := cell_alloc' (.cells #[.int .i64 m0, .int .i64 m1, .int .i64 m2, .int .i64 m3, .int .i64 m4] 23) (bcell hb5 c9)
      have e10 := cell_alloc' (.cells #[.int .i64 m0, .int .i64 m1, .int .i64 m2, .int .i64 m3, .int .i64 m4] 23) (bcell hb5 c10)
      have e11 := cell_alloc' (.cells #[.int .i64 m0, .int .i64 m1, .int .i64 m2, .int .i64 m3, .int .i64 m4] 23) (bcell hb5 c11)
      have HXB := Lib.hid (alloc_new w5 (.cells #[.int .i64 m0, .int .i64 m1, .int .i64 m2, .int .i64 m3, .int .i64 m4] 23))
      have HB6 := Lib.hid (below_alloc (o := .cells #[.int .i64 m0, .int .i64 m1, .int .i64 m2, .int .i64 m3, .int .i64 m4] 23) hb5)
      obtain ⟨xb, hxb⟩ : ∃ xb, w5.heap.size = xb := ⟨_, rfl⟩
      rw [hxb] at HXB
      have HXE := Lib.hid hxb
      have habx : ab < xb := by rw [← hxb]; exact Nat.lt_of_lt_of_le hab hb5.size
      have hwxb : wx.heap.size ≤ xb := by rw [← hxb]; exact hb5.size
      clear c0 c1 c2 c3 c4 c5 c6 c7 c8 c9 c10 c11 hb5 hxb PM
      go_upto_region 11 with fail
      rw [HXE.out]
      generalize w5.alloc (.cells #[.int .i64 m0, .int .i64 m1, .int .i64 m2, .int .i64 m3, .int .i64 m4] 23) = w6 at *
      obtain ⟨kk, hkk⟩ : ∃ kk : Int, ((x.kd : Nat) : Int) = kk := ⟨_, rfl⟩
      rw [hkk] at e0
      have hkx := hx.1
      have kk0 : (0 : Int) ≤ kk := by omega
      have kk1 : kk < 256 := by omega
      clear hkk
      have hxl := blk_lt HXB.out
      go_upto_if 68 with fail
      go_cut [15] (fun s wy => ∃ X : Am, s = .pointer (some ⟨xb, 0, none⟩) ∧ wy.heap[xb]? = some (.cells #[.int .i64 X.op, .int .i64 X.f, .int .i64 X.fm, .int .i64 X.t, .int .i64 X.tm] 23) ∧ Below wx.heap.size wx wy)
      case first =>
        by_cases hk2 : kk % 2 = 0
        · have hr : kk.tmod 2 = 0 := by rw [Int.tmod_eq_emod_of_nonneg kk0]; exact hk2
          obtain ⟨⟨y0, y1, y2, y3, y4⟩, f0, f1, f2, f3, f4⟩ := cells5 HXB.out
          go_wp2_with fail
          all_goals first | (exfalso; omega) | skip
          go_meet
          exact ⟨⟨x.a0, x.a1, x.a2, x.a3, x.a4⟩, rfl, stN_all [.int .i64 x.a0, .int .i64 x.a1, .int .i64 x.a2, .int .i64 x.a3, .int .i64 x.a4] HXB.out rfl, stN_below (B := xb) hwxb [.int .i64 x.a0, .int .i64 x.a1, .int .i64 x.a2, .int .i64 x.a3, .int .i64 x.a4] _ 0 HB6.out⟩
        · have hr : kk.tmod 2 = 1 := by rw [Int.tmod_eq_emod_of_nonneg kk0]; omega
          have hr2 : kk % 2 = 1 := by omega
          go_wp2_with fail
          all_goals first | (exfalso; omega) | skip
          go_meet
          exact ⟨⟨m0, m1, m2, m3, m4⟩, rfl, HXB.out, HB6.out⟩
      case rest =>
      obtain ⟨X, rfl, hXb, hbel⟩ := hcut
      obtain ⟨w7, rfl⟩ : ∃ wo : World, wo = wc := ⟨_, rfl⟩
      have HO7 := Lib.hid (HO.out.below hbel)
      obtain ⟨⟨x0, x1, x2, x3, x4⟩, -⟩ := cells5 hXb
      clear e0 e7 e8 e9 e10 e11 HXB HB6 hbel hXb HO HB5
      have hi2 : IntKind.i64.wrap (2 + (k : Int)) = 2 + (k : Int) := IntWalk.i64_in _ (by omega)
      have hin : In64 (2 + (k : Int)) := by unfold In64; omega
      obtain ⟨c', out, hrec, hol, ho1, ho2, ho3⟩ := recv_quiet c [(a, .res m 1 1)] (2 + (k : Int)) X (fun h s f l => by rw [look_one]; split <;> simp) hin HC3.out
      obtain ⟨X0, X1, X2, X3, X4⟩ := X
      have HREC := Lib.hid hrec; have HO1 := Lib.hid ho1; have HO2 := Lib.hid ho2; have HO3 := Lib.hid ho3
      clear hrec ho1 ho2 ho3
      dsimp only at x0 x1 x2 x3 x4
      go_wp2_with fail
      refine (HO7.out.recv (2 + (k : Int)) X0 X1 X2 X3 X4 _ _ _ _ HREC.out hin HC3.out).mono ?_
      rintro x9 w8 ⟨B8, k8, D8, d8, rfl, -, -, ho, -⟩
      have HO8 := Lib.hid (ho.more (K' := fun _ => False) (fun q hq => hq.elim))
      clear ho HO7 x0 x1 x2 x3 x4
      obtain ⟨on, hon⟩ : ∃ on, out.length = on := ⟨_, rfl⟩
      rw [hon] at hol ⊢
      have hol1 : decide ((1 : Int) < (on : Int)) = false := decide_eq_false (by omega)
      have hol2 : ¬ 1 < on := by omega
      clear hon
      go_wp2_with fail
      all_goals first | (exfalso; omega) | skip
      go_roundw
      case rel => exact ⟨k + 1, c', by omega, by omega, by go_num, HO1.out.trans HC1.out, HO2.out.trans HC2.out, HO3.out, HO8.out⟩
      case measure => simp [Go.RowKit.intOf]; omega
end Go.Proofs.Ytjdoemmfemogmaa.Ar
