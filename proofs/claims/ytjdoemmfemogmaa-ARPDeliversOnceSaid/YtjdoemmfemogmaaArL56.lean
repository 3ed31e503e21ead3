/-
  The walk of the law ARPBounds.
-/
import Derived.Test.YtjdoemmfemogmaaArSan
import Derived.Test.YtjdoemmfemogmaaArArgL
import Derived.Test.YtjdoemmfemogmaaArSendF
import Derived.Test.YtjdoemmfemogmaaArShort
import Derived.Test.YtjdoemmfemogmaaStore
import Derived.Deep.DeepCutAuto
import Derived.Deep.CutBlock
namespace Go.Proofs.Ytjdoemmfemogmaa.Ar
set_option maxRecDepth 100000
open Go.RowKit Go.Proofs.Ytjdoemmfemogmaa.Wire

theorem recv_c (c : Tc) (A : AL) (now : Int) (X : Am) (hn : In64 now) (hc : In64 c.at_) : (recvA c A now X).1.own = c.own ∧ (recvA c A now X).1.mac = c.mac ∧ In64 (recvA c A now X).1.at_ := by
  unfold recvA
  split
  · exact ⟨rfl, rfl, hc⟩
  split
  · split
    · exact ⟨rfl, rfl, hc⟩
    · unfold defA; split
      · exact ⟨rfl, rfl, hc⟩
      · exact ⟨rfl, rfl, hn⟩
  split
  · exact ⟨rfl, rfl, hc⟩
  split <;> exact ⟨rfl, rfl, hc⟩
theorem DL.done_ {A : AL} {N : Int} (h : DL A (N + ((31 : Nat) : Int) - 1) N) (hi : Inv A (N + ((31 : Nat) : Int))) : sumA A = 0 := by
  have e : N + ((31 : Nat) : Int) - 1 = N + 30 := by omega
  rw [e] at h
  exact h.done hi
theorem send_keeps {w6 w9 : World} {xb : Nat} {a0 a1 a2 a3 a4 a6 a7 a8 a9 a10 a11 : Value} {s : Value} {ty : TypeId} (h : w6.heap[xb]? = some (.cells #[a0, a1, a2, a3, a4, s, a6, a7, a8, a9, a10, a11] ty)) (hk : Kept (fun q => q = xb) w6.drew w9) : w9.cell? ⟨xb, 1, none⟩ = some a1 ∧ w9.cell? ⟨xb, 5, none⟩ = some s := by
  have hb : w9.heap[xb]? = some (.cells #[a0, a1, a2, a3, a4, s, a6, a7, a8, a9, a10, a11] ty) := (hk.2 xb rfl (blk_lt h)).trans h
  exact ⟨(cell_of_block (k := 1) hb rfl).1, (cell_of_block (k := 5) hb rfl).1⟩
theorem tmod3 (kk : Int) (h : 0 ≤ kk) : kk.tmod 3 = 0 ∨ kk.tmod 3 = 1 ∨ kk.tmod 3 = 2 := by
  rw [Int.tmod_eq_emod_of_nonneg h]; omega
set_option maxHeartbeats 8000000 in
theorem bounds_law (A : Option Addr) (nt ct : Nat) (tl : List Cl) (w : World) (hA : ArgC w A nt tl) :
    Calls Try.prog 8 #[.slice A nt ct] w fun x w' => x = .returned (.bool true) ∧ Below w.heap.size w w' := by
  have HA := Lib.hid hA
  have hnt := hA.size
  clear hA
  go_enter Try.func8, Try.ntmps8
  go_wp2_with fail
  refine (sanity_any _).mono ?_
  rintro x w1 ⟨rfl, hb1⟩
  go_wp2_with fail
  refine (new_any 10 5 _).mono ?_
  rintro x w2 (⟨-, -, rfl, hw2⟩ | ⟨hb, -, -⟩)
  case inr => rcases hb with hb | hb <;> cases hb
  have HO : Hid (OneA w w1.heap.size ⟨10, 5, false, 0⟩ [] (fun _ => False) w2) := Lib.hid (by rw [hw2]; exact (OneA.ofNew hb1 10 5).more (fun q hq => hq.elim))
  obtain ⟨T, hT⟩ : ∃ T, w1.heap.size = T := ⟨_, rfl⟩
  rw [hT] at HO ⊢
  clear hw2 hT hb1
  have i0 : In64 0 := by unfold In64; omega
  go_wp2_with fail
  go_loopw [6, 7] (fun nv iv wr => ∃ (k : Nat) (nw : Int) (c : Tc) (B : AL), k ≤ nt ∧ k ≤ 80 ∧ iv = .int .i64 (k : Int) ∧ nv = .int .i64 nw ∧ (0 ≤ nw ∧ nw ≤ 3 * (k : Int)) ∧ c.own = 10 ∧ In64 c.at_ ∧ Inv B nw ∧ OneA w T c B (fun _ => False) wr) (fun _ iv _ => 80 - (Go.RowKit.intOf iv).toNat)
  case atStart => exact ⟨0, 0, ⟨10, 5, false, 0⟩, [], by omega, by omega, rfl, rfl, ⟨by omega, by omega⟩, rfl, i0, Inv.nil 0, HO.out⟩
  case round =>
    clear HO
    obtain ⟨k, nw, c, B, hk, hk80, rfl, rfl, hnw, hc1, hc3, hinv, ho⟩ := hrel
    have HO := Lib.hid ho; have HC1 := Lib.hid hc1; have HC3 := Lib.hid hc3; have HI := Lib.hid hinv; clear ho hc1 hc3 hinv
    obtain ⟨wx, rfl⟩ : ∃ wo : World, wo = wr := ⟨_, rfl⟩
    obtain ⟨hnw0, hnw1⟩ := hnw
    by_cases hend : k = nt ∨ k = 80
    · have hpair : (decide ((k : Int) < (nt : Int)) = false ∧ ¬ k < nt) ∨ (k < nt ∧ decide ((k : Int) < (nt : Int)) = true ∧ decide ((k : Int) < 80) = false ∧ ¬ k < 80) := by
        by_cases q : k < nt
        · exact .inr ⟨q, decide_eq_true (by omega), decide_eq_false (by omega), by omega⟩
        · exact .inl ⟨decide_eq_false (by omega), q⟩
      clear hend
      rcases hpair with ⟨d1, q1⟩ | ⟨q1, d1, d2, q2⟩
      all_goals
        go_wp2_with fail
        all_goals first | (exfalso; omega) | skip
        go_loopw [11] (fun iv wr => ∃ (j : Nat) (B2 : AL), j ≤ 31 ∧ iv = .int .i64 (j : Int) ∧ Inv B2 (nw + (j : Int)) ∧ (1 ≤ j → DL B2 (nw + (j : Int) - 1) nw) ∧ OneA w T c B2 (fun _ => False) wr) (fun iv _ => 31 - (Go.RowKit.intOf iv).toNat)
        case atStart => exact ⟨0, B, by omega, rfl, HI.out.mono (by omega), fun q => by omega, HO.out⟩
        case round =>
          obtain ⟨j, B2, hj, rfl, hinv2, hdl, ho2⟩ := hrel
          have HO2 := Lib.hid ho2; have HI2 := Lib.hid hinv2; have HD2 := Lib.hid hdl
          clear ho2 hinv2 hdl HO
          obtain ⟨wy, rfl⟩ : ∃ wo : World, wo = wr := ⟨_, rfl⟩
          by_cases hj2 : j ≤ 30
          · have d5 : decide ((j : Int) ≤ 30) = true := decide_eq_true (by omega)
            have d6 : IntKind.i64.wrap (nw + (j : Int)) = nw + (j : Int) := IntWalk.i64_in _ (by omega)
            have hin : In64 (nw + (j : Int)) := by unfold In64; omega
            obtain ⟨r, hr⟩ : ∃ r, tickA c B2 (nw + (j : Int)) = r := ⟨_, rfl⟩
            obtain ⟨B3, out, held⟩ := r
            have hB3 : (tickA c B2 (nw + (j : Int))).1 = B3 := by rw [hr]
            have HR := Lib.hid hr; have HB3 := Lib.hid hB3
            clear hr hB3
            obtain ⟨tn, htn⟩ : ∃ tn, nw + (j : Int) = tn := ⟨_, rfl⟩
            have HTN := Lib.hid htn
            rw [htn] at hin HR
            replace d6 := d6.trans htn
            clear htn
            go_wp2_with fail
            all_goals first | (exfalso; omega) | skip
            refine (HO2.out.tick tn B3 out held HR.out hin HI2.out.le HI2.out.in64 HI2.out.some_).mono ?_
            rintro x9 w5 ⟨B5, k5, D5, d5', rfl, -, -, ho5, -⟩
            have HO5 := Lib.hid (ho5.more (K' := fun _ => False) (fun q hq => hq.elim))
            clear ho5
            go_wp2_with fail
            go_roundw
            case rel =>
              refine ⟨j + 1, B3, by omega, by go_num, ?_, fun _ => ?_, HO5.out⟩
              · rw [← HB3.out]; exact (HI2.out.tick (by omega) c).mono (by omega)
              · rw [← HB3.out]
                by_cases h0 : j = 0
                · subst h0
                  have := DL.start (N := nw) (by have := HI2.out; simpa using this) c
                  have e1 : nw + ((0 : Nat) : Int) = nw := by omega
                  have e2 : nw + ((0 + 1 : Nat) : Int) - 1 = nw := by omega
                  rw [e1, e2]; exact this
                · have := DL.step (HD2.out (by omega)) c
                  have e1 : nw + (j : Int) - 1 + 1 = nw + (j : Int) := by omega
                  have e2 : nw + ((j + 1 : Nat) : Int) - 1 = nw + (j : Int) := by omega
                  rw [e1] at this
                  rw [e2]; exact this
            case measure => simp [Go.RowKit.intOf]; omega
          · obtain rfl : j = 31 := by omega
            have d5 : decide (((31 : Nat) : Int) ≤ 30) = false := by decide
            have hz := (HD2.out (by omega)).done_ HI2.out
            have HSZ := Lib.hid (HO2.out.sizes B2.length 0 rfl hz HI2.out.le)
            clear hz
            generalize B2.length = n2 at *
            go_wp2_with fail
            all_goals first | (exfalso; omega) | skip
            refine HSZ.out.mono ?_
            rintro x9 w9 ⟨rfl, hb9⟩
            have HO9 := Lib.hid (HO2.out.below hb9)
            clear hb9
            go_wp2_with fail
            go_ret
            exact ⟨rfl, HO9.out.bel⟩
    · have d1 : decide ((k : Int) < (nt : Int)) = true := decide_eq_true (by omega)
      have d2 : decide ((k : Int) < 80) = true := decide_eq_true (by omega)
      have q1 : k < nt := by omega
      have q2 : k < 80 := by omega
      have k0 : (0 : Int) ≤ (k : Int) := by omega
      have k1 : (k : Int) < (nt : Int) := by omega
      obtain ⟨ab, ao, x, hAe, htl, hab, hx, c0, c1, c2, c3, c4, c5, c6, c7, c8, c9, c10, c11⟩ := (HA.out.below HO.out.bel).at_ k (by omega)
      subst hAe
      clear hend
      have P4 := Lib.hid (fun W => pick_any x.ti 4 W hx.2.2.2.2.2.2.1 (by omega) (by omega))
      have b4 := pick_lt x.ti 4 (by omega)
      generalize pick x.ti 4 = z4 at *
      have hw4 : IntKind.i64.wrap (nw + z4) = nw + z4 := IntWalk.i64_in _ (by omega)
      obtain ⟨nx, hnx⟩ : ∃ nx, nw + z4 = nx := ⟨_, rfl⟩
      replace hw4 := hw4.trans hnx
      have hnx0 : 0 ≤ nx ∧ nw ≤ nx ∧ nx ≤ 3 * ((k : Int) + 1) := by omega
      clear hnx
      obtain ⟨kk, hkk⟩ : ∃ kk : Int, ((x.kd : Nat) : Int) = kk := ⟨_, rfl⟩
      have hkx := hx.1
      have kk0 : (0 : Int) ≤ kk := by omega
      have kk1 : kk < 256 := by omega
      rw [hkk] at c0
      have HX := Lib.hid hx
      clear hkk hx
      have HXB := Lib.hid (alloc_new wx (.cells #[.int .u8 kk, .int .i64 x.ad, .int .i64 x.mc, .int .i64 x.to_, .int .i64 x.op, .string x.s, .int .i64 x.ti, .int .i64 x.a0, .int .i64 x.a1, .int .i64 x.a2, .int .i64 x.a3, .int .i64 x.a4] 25))
      have HO6 := Lib.hid ((HO.out.more (K' := fun q => q = wx.heap.size) (fun q e => .inr (by omega))).below ((Below.refl wx.heap.size wx).alloc (Nat.le_refl _) (.cells #[.int .u8 kk, .int .i64 x.ad, .int .i64 x.mc, .int .i64 x.to_, .int .i64 x.op, .string x.s, .int .i64 x.ti, .int .i64 x.a0, .int .i64 x.a1, .int .i64 x.a2, .int .i64 x.a3, .int .i64 x.a4] 25)))
      obtain ⟨xb, hxb⟩ : ∃ xb, wx.heap.size = xb := ⟨_, rfl⟩
      rw [hxb] at HXB HO6
      have HXE := Lib.hid hxb
      clear hxb
      go_upto_region 8 with fail
      rw [HXE.out]
      generalize wx.alloc (.cells #[.int .u8 kk, .int .i64 x.ad, .int .i64 x.mc, .int .i64 x.to_, .int .i64 x.op, .string x.s, .int .i64 x.ti, .int .i64 x.a0, .int .i64 x.a1, .int .i64 x.a2, .int .i64 x.a3, .int .i64 x.a4] 25) = w6 at *
      clear c0 c1 c2 c3 c4 c5 c6 c7 c8 c9 c10 c11 HO
      have e0 := (cell_of_block (k := 0) HXB.out rfl).1
      have e6 := (cell_of_block (k := 6) HXB.out rfl).1
      have hxl := blk_lt HXB.out
      go_upto_block 2 with (go_at_call 18; (with_reducible refine (P4.out _).mono ?_); rintro e w' ⟨rfl, rfl⟩)
      clear e6
      go_cut [4] (fun s wy => s = .pointer (some ⟨T, 0, none⟩) ∧ ∃ (c2 : Tc) (B2 : AL), c2.own = 10 ∧ In64 c2.at_ ∧ Inv B2 nx ∧ OneA w T c2 B2 (fun _ => False) wy)
      case first =>
        have hxx := HX.out
        unfold Cl.ok at hxx
        have PM := Lib.hid (fun W => message_any kk x.ad x.mc x.to_ x.op x.s x.ti x.a0 x.a1 x.a2 x.a3 x.a4 W hxx.2.1 hxx.2.2.1 hxx.2.2.2.1 hxx.2.2.2.2.1)
        have hr3 : kk % 3 = 0 ∨ kk % 3 = 1 ∨ kk % 3 = 2 := by omega
        generalize kk % 3 = r3 at *
        have hin : In64 nx := by unfold In64; omega
        have hI6 := HI.out.mono hnx0.2.1
        have HI6 := Lib.hid hI6
        clear hI6 e0
        rcases hr3 with rfl | rfl | rfl
        · have m0 := msgC_ok x.ad x.mc x.to_ x.op
          clear m0
          obtain ⟨r, hr⟩ : ∃ r, recvA c B nx (msgC x.ad x.mc x.to_ x.op) = r := ⟨_, rfl⟩
          have hinv := HI6.out.recv hnx0.1 c (msgC x.ad x.mc x.to_ x.op)
          have hrc := recv_c c B nx (msgC x.ad x.mc x.to_ x.op) hin HC3.out
          rw [hr] at hinv hrc
          obtain ⟨c3, B3, out, held⟩ := r
          dsimp only at hinv hrc
          generalize msgC x.ad x.mc x.to_ x.op = M at *
          obtain ⟨m0, m1, m2, m3, m4⟩ := M
          have HR := Lib.hid hr; have HIN := Lib.hid hinv; have HRC := Lib.hid hrc
          clear hr hinv hrc
          have e0 := (cell_of_block (k := 0) HXB.out rfl).1
          have e1 := (cell_of_block (k := 1) HXB.out rfl).1
          have e2 := (cell_of_block (k := 2) HXB.out rfl).1
          have e3 := (cell_of_block (k := 3) HXB.out rfl).1
          have e4 := (cell_of_block (k := 4) HXB.out rfl).1
          have e5 := (cell_of_block (k := 5) HXB.out rfl).1
          have e6 := (cell_of_block (k := 6) HXB.out rfl).1
          have e7 := (cell_of_block (k := 7) HXB.out rfl).1
          have e8 := (cell_of_block (k := 8) HXB.out rfl).1
          have e9 := (cell_of_block (k := 9) HXB.out rfl).1
          have e10 := (cell_of_block (k := 10) HXB.out rfl).1
          have e11 := (cell_of_block (k := 11) HXB.out rfl).1
          go_wp2_with fail
          all_goals first | (exfalso; omega) | skip
          clear e0 e1 e2 e3 e4 e5 e6 e7 e8 e9 e10 e11
          refine (PM.out _).mono ?_
          rintro x9 w8 ⟨rfl, hb8⟩
          have HO8 := Lib.hid (HO6.out.below hb8)
          clear hb8
          go_wp2_with fail
          refine (HO8.out.recv nx m0 m1 m2 m3 m4 c3 B3 out held HR.out hin HC3.out).mono ?_
          rintro x9 w9 ⟨B9, k9, D9, d9, rfl, -, -, ho9, -⟩
          have HO9 := Lib.hid (ho9.more (K' := fun _ => False) (fun q hq => hq.elim))
          clear ho9
          go_wp2_with fail
          go_meet
          exact ⟨rfl, c3, B3, HRC.out.1.trans HC1.out, HRC.out.2.2, HIN.out, HO9.out⟩
        · obtain ⟨r, hr⟩ : ∃ r, tickA c B nx = r := ⟨_, rfl⟩
          have hinv := HI6.out.tick hnx0.1 c
          rw [hr] at hinv
          obtain ⟨B3, out, held⟩ := r
          dsimp only at hinv
          have HR := Lib.hid hr; have HIN := Lib.hid hinv
          clear hr hinv
          go_wp2_with fail
          all_goals first | (exfalso; omega) | skip
          refine (HO6.out.tick nx B3 out held HR.out hin HI6.out.le HI6.out.in64 HI6.out.some_).mono ?_
          rintro x9 w9 ⟨B9, k9, D9, d9, rfl, -, -, ho9, -⟩
          have HO9 := Lib.hid (ho9.more (K' := fun _ => False) (fun q hq => hq.elim))
          clear ho9
          go_wp2_with fail
          go_meet
          exact ⟨rfl, c, B3, HC1.out, HC3.out, HIN.out, HO9.out⟩
        · obtain ⟨r, hr⟩ : ∃ r, sendF c B nx (addrN x.ad) (shortS x.s) = r := ⟨_, rfl⟩
          have hinv := HI6.out.send hnx0.1 c (addrN x.ad) (shortS x.s)
          rw [hr] at hinv
          obtain ⟨B3, mac, out, err⟩ := r
          dsimp only at hinv
          have PA := Lib.hid (fun W => address_any x.ad W hxx.2.1)
          have PS := Lib.hid (fun W => short_any x.s W hxx.2.2.2.2.2.1)
          have hsz : (shortS x.s).size ≤ 9223372036854775807 := by unfold shortS; rw [ByteArray.size_extract]; have := hxx.2.2.2.2.2.1; omega
          have HSS := Lib.hid hsz
          generalize addrN x.ad = ad at *
          generalize shortS x.s = ss at *
          have HR := Lib.hid hr; have HIN := Lib.hid hinv
          clear hr hinv hsz
          have e1 : w6.drew.cell? ⟨xb, 1, none⟩ = some (.int .i64 x.ad) := (cell_of_block (k := 1) HXB.out rfl).1
          have e5 : w6.drew.cell? ⟨xb, 5, none⟩ = some (.string x.s) := (cell_of_block (k := 5) HXB.out rfl).1
          have HY := Lib.hid (⟨e1, e5⟩ : w6.drew.cell? ⟨xb, 1, none⟩ = some (.int .i64 x.ad) ∧ w6.drew.cell? ⟨xb, 5, none⟩ = some (.string x.s))
          have HO6d := Lib.hid (HO6.out.below (Below.refl w6.heap.size w6).drew)
          clear e1 e5
          go_wp2_with fail
          all_goals first | (exfalso; omega) | skip
          go_region_held3 (fun w' => w'.cell? ⟨xb, 1, none⟩ = some (.int .i64 x.ad) ∧ w'.cell? ⟨xb, 5, none⟩ = some (.string x.s)) ((first | with_reducible exact HY.out | with_reducible exact HZ.out))
            (first
              | (go_simp; go_at_call 30; (with_reducible refine (PA.out _).mono ?_); rintro e9 w' ⟨rfl, rfl⟩)
              | (go_simp; go_at_call 26; (with_reducible refine (PS.out _).mono ?_); rintro e9 w' ⟨rfl, rfl⟩)
              | (go_simp; go_at_call 23; (refine (HO6d.out.sendF nx ad ss B3 mac out err HR.out HSS.out hin HI6.out.le HI6.out.in64).mono ?_); rintro e9 w9 ⟨B9, k9, rfl, -, ho9, hk9⟩; have HZ := Lib.hid (send_keeps HXB.out hk9); have HO9 := Lib.hid ho9; clear ho9 hk9))
          go_wp2_with fail
          go_meet
          exact ⟨rfl, c, B3, HC1.out, HC3.out, HIN.out, HO9.out.more (K' := fun _ => False) (fun q hq => hq.elim)⟩
      case rest =>
      obtain ⟨rfl, c2, B2, hc1, hc3, hinv, ho⟩ := hcut
      obtain ⟨w7, rfl⟩ : ∃ wo : World, wo = wc := ⟨_, rfl⟩
      have HO7 := Lib.hid ho; have HC17 := Lib.hid hc1; have HC37 := Lib.hid hc3; have HI7 := Lib.hid hinv
      have hsum := hinv.sum; have hlen := hinv.len
      clear ho hc1 hc3 hinv HO6 HXB
      have HSZ := Lib.hid (HO7.out.sizes B2.length (sumA B2) rfl rfl HI7.out.le)
      generalize B2.length = n2 at *
      generalize sumA B2 = z2 at *
      have d7 : decide ((16 : Int) < (n2 : Int)) = false := decide_eq_false (by omega)
      have d8 : IntKind.i64.wrap (4 * (n2 : Int)) = 4 * (n2 : Int) := IntWalk.i64_in _ (by omega)
      have d9 : decide (4 * (n2 : Int) < z2) = false := decide_eq_false (by omega)
      go_wp2_with fail
      all_goals first | (exfalso; omega) | skip
      refine HSZ.out.mono ?_
      rintro x9 w9 ⟨rfl, hb9⟩
      have HO9 := Lib.hid (HO7.out.below hb9)
      clear hb9
      go_wp2_with fail
      all_goals first | (exfalso; omega) | skip
      go_roundw
      case rel => exact ⟨k + 1, nx, c2, B2, by omega, by omega, by go_num, rfl, by omega, HC17.out, HC37.out, HI7.out, HO9.out⟩
      case measure => simp [Go.RowKit.intOf]; omega
end Go.Proofs.Ytjdoemmfemogmaa.Ar
