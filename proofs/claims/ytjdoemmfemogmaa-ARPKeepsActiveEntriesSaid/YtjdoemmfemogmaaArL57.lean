/-
  The walk of the law ARPKeepsActiveEntries.
-/
import Derived.Test.YtjdoemmfemogmaaArSan
import Derived.Test.YtjdoemmfemogmaaArArgL
import Derived.Test.YtjdoemmfemogmaaArSendF
import Derived.Test.YtjdoemmfemogmaaArShort
import Derived.Test.YtjdoemmfemogmaaArUse
import Derived.Test.YtjdoemmfemogmaaStore
import Derived.Deep.DeepCutAuto
namespace Go.Proofs.Ytjdoemmfemogmaa.Ar
set_option maxRecDepth 100000
open Go.RowKit Go.Proofs.Ytjdoemmfemogmaa.Wire

abbrev c105 : Tc := ⟨10, 5, false, 0⟩
set_option maxHeartbeats 8000000 in
theorem keeps_law (to_ : Int) (A : Option Addr) (nt ct : Nat) (tl : List Cl) (w : World) (hA : ArgC w A nt tl) (ht : In64 to_) :
    Calls Try.prog 9 #[.int .i64 to_, .slice A nt ct] w fun x w' => x = .returned (.bool true) ∧ Below w.heap.size w w' := by
  have HA := Lib.hid hA
  have hnt := hA.size
  have P1 := Lib.hid (fun W => pick_any to_ 1000 W ht (by omega) (by omega))
  have b1 := pick_lt to_ 1000 (by omega)
  generalize pick to_ 1000 = z1 at *
  have hw1 : IntKind.i64.wrap (1000 + z1) = 1000 + z1 := IntWalk.i64_in _ (by omega)
  obtain ⟨a, ha⟩ : ∃ a, 1000 + z1 = a := ⟨_, rfl⟩
  replace hw1 := hw1.trans ha
  have hab : 1000 ≤ a ∧ a < 2000 := by omega
  clear ha hA ht
  go_enter Try.func9, Try.ntmps9
  go_wp2_with fail
  refine (sanity_any _).mono ?_
  rintro x w1 ⟨rfl, hb1⟩
  go_wp2_with fail
  refine (new_any 10 5 _).mono ?_
  rintro x w2 (⟨-, -, rfl, hw2⟩ | ⟨hb, -, -⟩)
  case inr => rcases hb with hb | hb <;> cases hb
  have HO : Hid (OneA w w1.heap.size c105 [] (fun _ => False) w2) := Lib.hid (by rw [hw2]; exact (OneA.ofNew hb1 10 5).more (fun q hq => hq.elim))
  obtain ⟨T, hT⟩ : ∃ T, w1.heap.size = T := ⟨_, rfl⟩
  rw [hT] at HO ⊢
  clear hw2 hT hb1
  have i0 : In64 0 := by unfold In64; omega
  have ua : uniB a = true := by unfold uniB; exact decide_eq_true (by omega)
  have hs1 : sendF c105 [] 0 a ⟨#[120]⟩ = ([(a, .inc [⟨#[120]⟩] 1 0 0)], 0, [req c105 a], 0) := by
    unfold sendF
    rw [if_neg]
    · rfl
    · rintro (q | q | q)
      · rw [ua] at q; cases q
      · dsimp only at q; omega
      · revert q; decide
  have hr1 : recvA c105 [(a, .inc [⟨#[120]⟩] 1 0 0)] 0 ⟨2, a, 77, 10, 5⟩ = (c105, [(a, .res 77 0 0)], [], [⟨a, 77, ⟨#[120]⟩⟩]) := by
    unfold recvA
    have hok : (⟨2, a, 77, 10, 5⟩ : Am).ok := by unfold Am.ok; dsimp only; omega
    rw [if_neg (fun q => q hok), if_neg (by dsimp only; omega), if_neg (by simp)]
    simp [look, upd]
  have HS1 := Lib.hid hs1; have HR1 := Lib.hid hr1; have HUA := Lib.hid ua
  clear hs1 hr1 ua
  go_wp2_with fail
  refine (P1.out _).mono ?_
  rintro x w' ⟨rfl, rfl⟩
  go_wp2_with fail
  refine (HO.out.sendF 0 a ⟨#[120]⟩ _ _ _ _ HS1.out (by simp [ByteArray.size]) i0 (by simp) (by simp)).mono ?_
  rintro x w3 ⟨B3, k3, rfl, -, ho, -⟩
  have HO3 := Lib.hid (ho.more (K' := fun _ => False) (fun q hq => hq.elim))
  clear ho HO
  go_wp2_with fail
  refine (HO3.out.recv 0 2 a 77 10 5 _ _ _ _ HR1.out i0 i0).mono ?_
  rintro x w4 ⟨B4, k4, D4, d4, rfl, -, -, ho, -⟩
  have HO4 := Lib.hid (ho.more (K' := fun _ => False) (fun q hq => hq.elim))
  clear ho HO3
  have hU0 : Use [(a, .res 77 0 0)] a 0 := ⟨⟨by simp, by simp, fun x hx => by simp at hx; subst hx; dsimp only; omega, fun x hx => by simp at hx; subst hx; unfold EvI; dsimp only; omega⟩, by simp [look]⟩
  have HU0 := Lib.hid hU0
  clear hU0
  go_wp2_with fail
  go_loopw [9] (fun iv wr => ∃ (k : Nat) (B : AL), k ≤ nt ∧ k ≤ 60 ∧ iv = .int .i64 (k : Int) ∧ Use B a (k : Int) ∧ OneA w T c105 B (fun _ => False) wr) (fun iv _ => 60 - (Go.RowKit.intOf iv).toNat)
  case atStart => exact ⟨0, _, by omega, by omega, rfl, HU0.out, HO4.out⟩
  case round =>
    clear HO4 HU0
    obtain ⟨k, B, hk, hk60, rfl, hu, ho⟩ := hrel
    have HO := Lib.hid ho; have HU := Lib.hid hu; clear ho hu
    obtain ⟨wx, rfl⟩ : ∃ wo : World, wo = wr := ⟨_, rfl⟩
    by_cases hend : k = nt ∨ k = 60
    · have hpair : (decide ((k : Int) < (nt : Int)) = false ∧ ¬ k < nt) ∨ (k < nt ∧ decide ((k : Int) < (nt : Int)) = true ∧ decide ((k : Int) < 60) = false ∧ ¬ k < 60) := by
        by_cases q : k < nt
        · exact .inr ⟨q, decide_eq_true (by omega), decide_eq_false (by omega), by omega⟩
        · exact .inl ⟨decide_eq_false (by omega), q⟩
      clear hend
      have HKN := Lib.hid (HO.out.known a (.tuple #[.int .i64 77, .bool true]) (by rw [HU.out.has]; rfl))
      have hlen := HU.out.inv.len
      have HSZ := Lib.hid (HO.out.sizes B.length (sumA B) rfl rfl HU.out.inv.le)
      generalize B.length = n2 at *
      generalize sumA B = z2 at *
      have d7 : decide ((n2 : Int) ≤ 16) = true := decide_eq_true (by omega)
      rcases hpair with ⟨d1, q1⟩ | ⟨q1, d1, d2, q2⟩
      all_goals
        go_wp2_with fail
        all_goals first | (exfalso; omega) | skip
        refine HKN.out.mono ?_
        rintro x9 w' ⟨rfl, rfl⟩
        go_wp2_with fail
        refine HSZ.out.mono ?_
        rintro x9 w9 ⟨rfl, hb9⟩
        have HO9 := Lib.hid (HO.out.below hb9)
        clear hb9
        go_wp2_with fail
        all_goals first | (exfalso; omega) | skip
        go_ret
        exact ⟨rfl, HO9.out.bel⟩
    · have d1 : decide ((k : Int) < (nt : Int)) = true := decide_eq_true (by omega)
      have d2 : decide ((k : Int) < 60) = true := decide_eq_true (by omega)
      have q1 : k < nt := by omega
      have q2 : k < 60 := by omega
      have k0 : (0 : Int) ≤ (k : Int) := by omega
      have k1 : (k : Int) < (nt : Int) := by omega
      obtain ⟨ab, ao, x, hAe, htl, hab2, hx, c0, c1, c2, c3, c4, c5, c6, c7, c8, c9, c10, c11⟩ := HA.out.at_ k (by omega)
      subst hAe
      clear hend c3 c4 c6 c7 c8 c9 c10 c11
      have P60 := Lib.hid (fun W => pick_any x.ad 60 W hx.2.1 (by omega) (by omega))
      have b60 := pick_lt x.ad 60 (by omega)
      generalize pick x.ad 60 = z60 at *
      have hw60 : IntKind.i64.wrap (2000 + z60) = 2000 + z60 := IntWalk.i64_in _ (by omega)
      obtain ⟨b, hb⟩ : ∃ b, 2000 + z60 = b := ⟨_, rfl⟩
      replace hw60 := hw60.trans hb
      have hbb : 2000 ≤ b ∧ b < 2060 := by omega
      clear hb b60
      have P9 := Lib.hid (fun W => pick_any x.mc 9 W hx.2.2.1 (by omega) (by omega))
      have b9 := pick_lt x.mc 9 (by omega)
      generalize pick x.mc 9 = z9 at *
      have hw9 : IntKind.i64.wrap (1 + z9) = 1 + z9 := IntWalk.i64_in _ (by omega)
      obtain ⟨m9, hm9⟩ : ∃ m9, 1 + z9 = m9 := ⟨_, rfl⟩
      replace hw9 := hw9.trans hm9
      clear hm9 b9
      have hwn : IntKind.i64.wrap (1 + (k : Int)) = 1 + (k : Int) := IntWalk.i64_in _ (by omega)
      obtain ⟨nw, hnw⟩ : ∃ nw, 1 + (k : Int) = nw := ⟨_, rfl⟩
      replace hwn := hwn.trans hnw
      have hnk : nw = (k : Int) + 1 := by omega
      have HNK := Lib.hid hnk
      have hnb : 0 ≤ nw ∧ nw < 600 := by omega
      have hin : In64 nw := by unfold In64; omega
      clear hnw hnk
      obtain ⟨kk, hkk⟩ : ∃ kk : Int, ((x.kd : Nat) : Int) = kk := ⟨_, rfl⟩
      have hkx := hx.1
      have kk0 : (0 : Int) ≤ kk := by omega
      have kk1 : kk < 256 := by omega
      rw [hkk] at c0
      have PS := Lib.hid (fun W => short_any x.s W hx.2.2.2.2.2.1)
      have hsz : (shortS x.s).size ≤ 9223372036854775807 := by unfold shortS; rw [ByteArray.size_extract]; have := hx.2.2.2.2.2.1; omega
      have HSS := Lib.hid hsz
      generalize shortS x.s = ss at *
      have HC0 := Lib.hid (fun W (hb : Below w.heap.size w W) => bcell hb c0)
      have HC1 := Lib.hid (fun W (hb : Below w.heap.size w W) => bcell hb c1)
      have HC2 := Lib.hid (fun W (hb : Below w.heap.size w W) => bcell hb c2)
      have HC5 := Lib.hid (fun W (hb : Below w.heap.size w W) => bcell hb c5)
      clear hkk hx hsz hkx htl c0 c1 c2 c5
      obtain ⟨hsa, hua⟩ := use_a (c := c105) HU.out k0 ⟨#[121]⟩ (by
        rintro (q | q | q)
        · rw [HUA.out] at q; cases q
        · dsimp only at q; omega
        · revert q; decide)
      have hub := use_b (c := c105) HU.out k0 (show a ≠ b by omega) ss
      rw [← HNK.out] at hsa hua hub
      obtain ⟨r, hr⟩ : ∃ r, sendF c105 (upd B a (.res 77 0 nw)) nw b ss = r := ⟨_, rfl⟩
      rw [hr] at hub
      obtain ⟨B2, mac2, out2, err2⟩ := r
      dsimp only at hub
      have HSA := Lib.hid hsa; have HUU := Lib.hid hua; have HUB := Lib.hid hub; have HR2 := Lib.hid hr
      clear hsa hua hub hr
      obtain ⟨B1, hB1⟩ : ∃ B1, upd B a (.res 77 0 nw) = B1 := ⟨_, rfl⟩
      rw [hB1] at HSA HUU HR2
      clear hB1
      go_wp2_with fail
      all_goals first | (exfalso; omega) | skip
      refine (HO.out.sendF nw a ⟨#[121]⟩ _ _ _ _ HSA.out (by simp [ByteArray.size]) hin HU.out.inv.le HU.out.inv.in64).mono ?_
      rintro x9 w5 ⟨B5, k5, rfl, -, ho, hkp⟩
      have HO5 := Lib.hid (ho.more (K' := fun _ => False) (fun q hq => hq.elim))
      clear ho hkp
      have c1 := HC1.out _ HO5.out.bel
      have c5 := HC5.out _ HO5.out.bel
      go_wp2_with (first | (go_at_call 18; (with_reducible refine (P60.out _).mono ?_); rintro e9 w' ⟨rfl, rfl⟩) | (go_at_call 26; (with_reducible refine (PS.out _).mono ?_); rintro e9 w' ⟨rfl, rfl⟩))
      all_goals first | (exfalso; omega) | skip
      clear c1 c5
      refine (HO5.out.sendF nw b ss B2 mac2 out2 err2 HR2.out HSS.out hin HUU.out.inv.le HUU.out.inv.in64).mono ?_
      rintro x9 w6 ⟨B6, k6, rfl, -, ho, -⟩
      have HO6 := Lib.hid (ho.more (K' := fun _ => False) (fun q hq => hq.elim))
      clear ho HO5 HR2 HUU
      have c0 := HC0.out _ HO6.out.bel
      have hr2 : kk % 2 = 0 ∨ kk % 2 = 1 := by omega
      go_upto_if 83 with fail
      generalize kk % 2 = r2 at *
      go_cut [6] (fun s wy => s = .pointer (some ⟨T, 0, none⟩) ∧ ∃ B3, Use B3 a nw ∧ OneA w T c105 B3 (fun _ => False) wy)
      case first =>
        clear c0
        rcases hr2 with rfl | rfl
        · obtain ⟨r, hr⟩ : ∃ r, recvA c105 B2 nw ⟨2, b, m9, 10, 5⟩ = r := ⟨_, rfl⟩
          have hu3 := use_recv (c := c105) HUB.out hnb.1 ⟨2, b, m9, 10, 5⟩ (by show a ≠ b; omega)
          have hc3 := recv_c0 (c := c105) (A := B2) (now := nw) (X := ⟨2, b, m9, 10, 5⟩) (by show b ≠ 10; omega)
          rw [hr] at hu3 hc3
          obtain ⟨c3, B3, out3, held3⟩ := r
          dsimp only at hu3 hc3
          subst hc3
          have HU3 := Lib.hid hu3; have HR3 := Lib.hid hr
          clear hu3 hr
          have c2 := HC2.out _ HO6.out.bel
          go_wp2_with (go_at_call 18; (with_reducible refine (P9.out _).mono ?_); rintro e9 w' ⟨rfl, rfl⟩)
          all_goals first | (exfalso; omega) | skip
          clear c2
          refine (HO6.out.recv nw 2 b m9 10 5 _ B3 out3 held3 HR3.out hin i0).mono ?_
          rintro x9 w7 ⟨B7, k7, D7, d7, rfl, -, -, ho, -⟩
          have HO7 := Lib.hid (ho.more (K' := fun _ => False) (fun q hq => hq.elim))
          clear ho
          go_wp2_with fail
          go_meet
          exact ⟨rfl, B3, HU3.out, HO7.out⟩
        · go_wp2_with fail
          all_goals first | (exfalso; omega) | skip
          go_meet
          exact ⟨rfl, B2, HUB.out, HO6.out⟩
      case rest =>
      obtain ⟨rfl, B3, hu3, ho⟩ := hcut
      obtain ⟨w7, rfl⟩ : ∃ wo : World, wo = wc := ⟨_, rfl⟩
      have HO7 := Lib.hid ho; have HU7 := Lib.hid hu3
      clear ho hu3 HO6 HUB c0 hr2
      have c0 := HC0.out _ HO7.out.bel
      have hr3 : kk % 3 = 0 ∨ kk % 3 = 1 ∨ kk % 3 = 2 := by omega
      go_upto_if 102 with fail
      generalize kk % 3 = r3 at *
      clear c0
      by_cases hz : r3 = 0
      · subst hz
        obtain ⟨r, hr⟩ : ∃ r, tickA c105 B3 nw = r := ⟨_, rfl⟩
        have hu4 := use_tick (c := c105) HU7.out hnb.1 hnb.2
        rw [hr] at hu4
        obtain ⟨B4, out4, held4⟩ := r
        dsimp only at hu4
        have HU4 := Lib.hid hu4; have HR4 := Lib.hid hr
        clear hu4 hr
        go_wp2_with fail
        all_goals first | (exfalso; omega) | skip
        refine (HO7.out.tick nw B4 out4 held4 HR4.out hin HU7.out.inv.le HU7.out.inv.in64 HU7.out.inv.some_).mono ?_
        rintro x9 w8 ⟨B8, k8, D8, d8, rfl, -, -, ho, -⟩
        have HO8 := Lib.hid (ho.more (K' := fun _ => False) (fun q hq => hq.elim))
        clear ho
        go_wp2_with fail
        go_roundw
        case rel => exact ⟨k + 1, B4, by omega, by omega, by go_num, by have := HU4.out; rw [HNK.out] at this; simpa using this, HO8.out⟩
        case measure => simp [Go.RowKit.intOf]; omega
      · have e3 : (r3 == 0) = false := beq_eq_false_iff_ne.2 hz
        go_wp2_with fail
        all_goals first | (exfalso; omega) | skip
        go_roundw
        case rel => exact ⟨k + 1, B3, by omega, by omega, by go_num, by have := HU7.out; rw [HNK.out] at this; simpa using this, HO7.out⟩
        case measure => simp [Go.RowKit.intOf]; omega
end Go.Proofs.Ytjdoemmfemogmaa.Ar
