/-
  The walk of the law ARPMatchesReference.
-/
import Derived.Test.YtjdoemmfemogmaaArRfO
import Derived.Test.YtjdoemmfemogmaaArSan
import Derived.Test.YtjdoemmfemogmaaArArgL
import Derived.Test.YtjdoemmfemogmaaArShort
import Derived.Test.YtjdoemmfemogmaaStore
import Derived.Deep.DeepCutAuto
import Derived.Deep.CutBlock
namespace Go.Proofs.Ytjdoemmfemogmaa.Ar
set_option maxRecDepth 100000
open Go.RowKit Go.Proofs.Ytjdoemmfemogmaa.Wire

theorem recv_at {c : Tc} {A : AL} {now : Int} (X : Am) (h0 : 0 ≤ now) (hc : 0 ≤ c.at_ ∧ c.at_ ≤ now) : 0 ≤ (recvA c A now X).1.at_ ∧ (recvA c A now X).1.at_ ≤ now := by
  unfold recvA
  split
  · exact hc
  split
  · split
    · exact hc
    · unfold defA; split
      · exact hc
      · exact ⟨h0, Int.le_refl _⟩
  split
  · exact hc
  split <;> exact hc
theorem send_out (c : Tc) (A : AL) (now to_ : Int) (s : ByteArray) : (sendF c A now to_ s).2.2.1.length ≤ 1 := by
  unfold sendF
  split
  · simp
  · cases look A to_ with
    | none => simp
    | some v => cases v <;> simp
theorem recv_out {A : AL} {now : Int} (h : Inv A now) (c : Tc) (X : Am) : (recvA c A now X).2.2.1.length ≤ 1 ∧ (recvA c A now X).2.2.2.length ≤ 4 := by
  unfold recvA
  split
  · simp
  split
  · split
    · simp
    · unfold defA; split <;> simp
  split
  · simp
  cases hl : look A X.f with
  | none => dsimp only; split <;> simp
  | some v =>
    cases v with
    | inc held sent first last =>
      have := h.ev _ (look_mem hl)
      unfold EvI at this
      dsimp only
      rw [List.length_map]
      refine ⟨by split <;> simp, by omega⟩
    | res mac since used => dsimp only; split <;> simp
theorem tick_out {A : AL} {now : Int} (h : Inv A now) (c : Tc) : (tickA c A now).2.1.length ≤ 16 ∧ (tickA c A now).2.2.length ≤ 64 := by
  have hl : (ordA A).length = A.length := by
    have := congrArg List.length (ord_map A)
    rw [List.length_map, List.length_mergeSort, List.length_map] at this
    exact this
  have h1 := flat_le (tickM c now) 1 (ordA A) (fun x _ => outM_le c now x)
  have h2 := flat_le (tickH now) 4 (ordA A) (fun x hx => by
    have := h.ev x (ord_mem hx)
    obtain ⟨k, v⟩ := x
    cases v with
    | inc held sent first last =>
      unfold EvI at this
      unfold tickH
      dsimp only at this ⊢
      split
      · rw [List.length_map]; omega
      · simp
    | res mac since used => simp [tickH])
  have h3 := h.len
  unfold tickA
  dsimp only
  omega
set_option maxHeartbeats 8000000 in
theorem matches_law (own mac : Int) (A : Option Addr) (nt ct : Nat) (tl : List Cl) (w : World) (hA : ArgC w A nt tl) :
    Calls Try.prog 7 #[.int .i64 own, .int .i64 mac, .slice A nt ct] w fun x w' => x = .returned (.bool true) ∧ Below w.heap.size w w' := by
  have HA := Lib.hid hA
  have hnt := hA.size
  clear hA
  go_enter Try.func7, Try.ntmps7
  go_wp2_with fail
  refine (sanity_any _).mono ?_
  rintro x w1 ⟨rfl, hb1⟩
  go_wp2_with fail
  refine (new_any 10 5 _).mono ?_
  rintro x w2 (⟨-, -, rfl, hw2⟩ | ⟨hb, -, -⟩)
  case inr => rcases hb with hb | hb <;> cases hb
  have hlt2 : Below w.heap.size w w2 := by rw [hw2]; exact below_alloc hb1
  have HO2 : Hid (OneA w w1.heap.size ⟨10, 5, false, 0⟩ [] (fun _ => False) w2) := Lib.hid (by rw [hw2]; exact (OneA.ofNew hb1 10 5).more (fun q hq => hq.elim))
  obtain ⟨T, hT⟩ : ∃ T, w1.heap.size = T := ⟨_, rfl⟩
  rw [hT] at HO2 ⊢
  clear hw2 hT hb1
  go_wp2_with fail
  refine (new_ref 10 5 _).mono ?_
  rintro x w3 (⟨-, -, rfl, hw3⟩ | ⟨hb, -, -⟩)
  case inr => rcases hb with hb | hb <;> cases hb
  have HR : Hid (OneR w w2.heap.size ⟨10, 5, false, 0⟩ [] (fun q => q = w2.heap.size) w3) := Lib.hid (by rw [hw3]; exact OneR.ofNew hlt2 10 5)
  have HO : Hid (OneA w T ⟨10, 5, false, 0⟩ [] (fun q => q = w2.heap.size) w3) := Lib.hid (by rw [hw3]; exact (HO2.out.more (fun q e => .inr (by omega))).below ((Below.refl _ _).alloc (Nat.le_refl _) _))
  obtain ⟨T2, hT2⟩ : ∃ T2, w2.heap.size = T2 := ⟨_, rfl⟩
  rw [hT2] at HO HR ⊢
  clear hw3 hT2 hlt2 HO2
  go_wp2_with fail
  go_loopw [12, 13] (fun nv iv wr => ∃ (k : Nat) (nw : Int) (c : Tc) (B : AL) (S : Nat → Prop), k ≤ nt ∧ k ≤ 60 ∧ iv = .int .i64 (k : Int) ∧ nv = .int .i64 nw ∧ (0 ≤ nw ∧ nw ≤ 699 * (k : Int)) ∧ (0 ≤ c.at_ ∧ c.at_ ≤ nw) ∧ Inv B nw ∧ OneA w T c B S wr ∧ OneR w T2 c B S wr) (fun _ iv _ => 60 - (Go.RowKit.intOf iv).toNat)
  case atStart => exact ⟨0, 0, ⟨10, 5, false, 0⟩, [], _, by omega, by omega, rfl, rfl, ⟨by omega, by omega⟩, ⟨by decide, by decide⟩, Inv.nil 0, HO.out, HR.out⟩
  case round =>
    clear HO HR
    obtain ⟨k, nw, c, B, S, hk, hk60, rfl, rfl, hnw, hc3, hinv, ho, hr⟩ := hrel
    have HO := Lib.hid ho; have HR := Lib.hid hr; have HI := Lib.hid hinv; clear ho hr hinv
    obtain ⟨wx, rfl⟩ : ∃ wo : World, wo = wr := ⟨_, rfl⟩
    obtain ⟨hnw0, hnw1⟩ := hnw
    obtain ⟨hc0, hc1⟩ := hc3
    by_cases hend : k = nt ∨ k = 60
    · as_aux_lemma =>
      have hpair : (decide ((k : Int) < (nt : Int)) = false ∧ ¬ k < nt) ∨ (k < nt ∧ decide ((k : Int) < (nt : Int)) = true ∧ decide ((k : Int) < 60) = false ∧ ¬ k < 60) := by
        by_cases q : k < nt
        · exact .inr ⟨q, decide_eq_true (by omega), decide_eq_false (by omega), by omega⟩
        · exact .inl ⟨decide_eq_false (by omega), q⟩
      clear hend
      rcases hpair with ⟨d1, q1⟩ | ⟨q1, d1, d2, q2⟩
      all_goals
        go_wp2_with fail
        all_goals first | (exfalso; omega) | skip
        refine (new_any own mac _).mono ?_
        rintro x9 w4 hx4
        rcases hx4 with ⟨hu, hm, rfl, hw4⟩ | ⟨hum, rfl, hw4⟩
        · have HB4 : Hid (Below w.heap.size w w4) := Lib.hid (by rw [hw4]; exact below_alloc HO.out.bel)
          clear hw4
          go_wp2_with fail
          refine (new_ref own mac _).mono ?_
          rintro x8 w5 hx5
          rcases hx5 with ⟨-, -, rfl, hw5⟩ | ⟨hum, -, -⟩
          · have HB5 : Hid (Below w.heap.size w w5) := Lib.hid (by rw [hw5]; exact below_alloc HB4.out)
            clear hw5
            go_wp2_with fail
            go_ret
            exact ⟨rfl, HB5.out⟩
          · rw [hu, hm] at hum
            rcases hum with q | q <;> cases q
        · subst hw4
          go_wp2_with fail
          refine (new_ref own mac _).mono ?_
          rintro x8 w5 hx5
          rcases hx5 with ⟨hu, hm, -, -⟩ | ⟨-, rfl, hw5⟩
          · rw [hu, hm] at hum
            rcases hum with q | q <;> cases q
          · subst hw5
            go_wp2_with fail
            go_ret
            exact ⟨rfl, HO.out.bel⟩
    · have d1 : decide ((k : Int) < (nt : Int)) = true := decide_eq_true (by omega)
      have d2 : decide ((k : Int) < 60) = true := decide_eq_true (by omega)
      have q1 : k < nt := by omega
      have q2 : k < 60 := by omega
      have k0 : (0 : Int) ≤ (k : Int) := by omega
      have k1 : (k : Int) < (nt : Int) := by omega
      obtain ⟨ab, ao, x, hAe, htl, hab, hx, c0, c1, c2, c3, c4, c5, c6, c7, c8, c9, c10, c11⟩ := (HA.out.below HO.out.bel).at_ k (by omega)
      subst hAe
      clear hend
      have P7 := Lib.hid (fun W => pick_any x.ti 700 W hx.2.2.2.2.2.2.1 (by omega) (by omega))
      have P5 := Lib.hid (fun W => pick_any x.ti 5 W hx.2.2.2.2.2.2.1 (by omega) (by omega))
      have b7 := pick_lt x.ti 700 (by omega)
      have b5 := pick_lt x.ti 5 (by omega)
      generalize pick x.ti 700 = z7 at *
      generalize pick x.ti 5 = z5 at *
      obtain ⟨kk, hkk⟩ : ∃ kk : Int, ((x.kd : Nat) : Int) = kk := ⟨_, rfl⟩
      have hkx := hx.1
      have kk0 : (0 : Int) ≤ kk := by omega
      have kk1 : kk < 256 := by omega
      rw [hkk] at c0
      have HX := Lib.hid hx
      clear hkk hx
      have HXB := Lib.hid (alloc_new wx (.cells #[.int .u8 kk, .int .i64 x.ad, .int .i64 x.mc, .int .i64 x.to_, .int .i64 x.op, .string x.s, .int .i64 x.ti, .int .i64 x.a0, .int .i64 x.a1, .int .i64 x.a2, .int .i64 x.a3, .int .i64 x.a4] 25))
      have HO6 := Lib.hid ((HO.out.more (K' := fun q => S q ∨ q = wx.heap.size) (fun q e => e.imp id (fun e => by omega))).below ((Below.refl wx.heap.size wx).alloc (Nat.le_refl _) (.cells #[.int .u8 kk, .int .i64 x.ad, .int .i64 x.mc, .int .i64 x.to_, .int .i64 x.op, .string x.s, .int .i64 x.ti, .int .i64 x.a0, .int .i64 x.a1, .int .i64 x.a2, .int .i64 x.a3, .int .i64 x.a4] 25)))
      have HR6 := Lib.hid (HR.out.below ((Below.refl wx.heap.size wx).alloc (Nat.le_refl _) (.cells #[.int .u8 kk, .int .i64 x.ad, .int .i64 x.mc, .int .i64 x.to_, .int .i64 x.op, .string x.s, .int .i64 x.ti, .int .i64 x.a0, .int .i64 x.a1, .int .i64 x.a2, .int .i64 x.a3, .int .i64 x.a4] 25)))
      have HSL : Hid (∀ q, S q → w.heap.size ≤ q ∧ q < wx.heap.size) := Lib.hid (fun q hq => HR.out.lt hq)
      obtain ⟨xb, hxb⟩ : ∃ xb, wx.heap.size = xb := ⟨_, rfl⟩
      rw [hxb] at HXB HO6 HSL
      have HXE := Lib.hid hxb
      clear hxb
      go_upto_region 9 with fail
      rw [HXE.out]
      generalize wx.alloc (.cells #[.int .u8 kk, .int .i64 x.ad, .int .i64 x.mc, .int .i64 x.to_, .int .i64 x.op, .string x.s, .int .i64 x.ti, .int .i64 x.a0, .int .i64 x.a1, .int .i64 x.a2, .int .i64 x.a3, .int .i64 x.a4] 25) = w6 at *
      clear c0 c1 c2 c3 c4 c5 c6 c7 c8 c9 c10 c11 HO HR
      have HY : Hid (w6.drew.cell? ⟨xb, 6, none⟩ = some (.int .i64 x.ti)) := Lib.hid (cell_of_block (k := 6) HXB.out rfl).1
      have hmul : IntKind.i64.wrap (40 * z5) = 40 * z5 := IntWalk.i64_in _ (by omega)
      have hm0 : (1 : Int) ≤ max 1 (40 * z5) := by omega
      have hne : ¬ max 1 (40 * z5) = 0 := by omega
      have hdq := Int.ediv_nonneg b7.1 (show (0 : Int) ≤ max 1 (40 * z5) by omega)
      have hdr := Int.ediv_le_self (max 1 (40 * z5)) b7.1
      have htd : z7.tdiv (max 1 (40 * z5)) = z7 / max 1 (40 * z5) := Int.tdiv_eq_ediv_of_nonneg b7.1
      have hdw : IntKind.i64.wrap (z7 / max 1 (40 * z5)) = z7 / max 1 (40 * z5) := IntWalk.i64_in _ (by omega)
      have hwn : IntKind.i64.wrap (nw + z7 / max 1 (40 * z5)) = nw + z7 / max 1 (40 * z5) := IntWalk.i64_in _ (by omega)
      go_region_held3 (fun w' => w'.cell? ⟨xb, 6, none⟩ = some (.int .i64 x.ti)) ((with_reducible exact HY.out))
        (first
          | (go_simp; go_at_call 18; (with_reducible refine (P7.out _).mono ?_); rintro e9 w' ⟨rfl, rfl⟩)
          | (go_simp; go_at_call 18; (with_reducible refine (P5.out _).mono ?_); rintro e9 w' ⟨rfl, rfl⟩))
      clear hm0 hne htd hdw hmul
      generalize z7 / max 1 (40 * z5) = z9 at *
      try rw [hwn]
      obtain ⟨nx, hnx⟩ : ∃ nx, nw + z9 = nx := ⟨_, rfl⟩
      rw [hnx]
      have hnx0 : 0 ≤ nx ∧ nw ≤ nx ∧ nx ≤ 699 * ((k : Int) + 1) := by omega
      have HXB7 : Hid (w6.drew.heap[xb]? = some (.cells #[.int .u8 kk, .int .i64 x.ad, .int .i64 x.mc, .int .i64 x.to_, .int .i64 x.op, .string x.s, .int .i64 x.ti, .int .i64 x.a0, .int .i64 x.a1, .int .i64 x.a2, .int .i64 x.a3, .int .i64 x.a4] 25)) := Lib.hid HXB.out
      have HO7 := Lib.hid (HO6.out.below (Below.refl w6.heap.size w6).drew)
      have HR7 := Lib.hid (HR6.out.below (Below.refl w6.heap.size w6).drew)
      have HI6 := Lib.hid (HI.out.mono hnx0.2.1)
      have hin : In64 nx := by unfold In64; omega
      have hbd : 0 ≤ nx ∧ nx ≤ 1000000 := by omega
      clear hwn hnx hdq hdr HY HXB HO6 HR6 P7 P5 b7 b5
      generalize w6.drew = w7 at *
      have e0 := (cell_of_block (k := 0) HXB7.out rfl).1
      obtain ⟨r6, hr6⟩ : ∃ r6, kk % 6 = r6 := ⟨_, rfl⟩
      go_upto_block 2 with fail
      rw [hr6]
      go_cut [15] (fun s wy => s = .bool true ∧ ∃ (c2 : Tc) (B2 : AL) (S2 : Nat → Prop), (0 ≤ c2.at_ ∧ c2.at_ ≤ nx) ∧ Inv B2 nx ∧ OneA w T c2 B2 S2 wy ∧ OneR w T2 c2 B2 S2 wy)
      case first =>
        have hxx := HX.out
        unfold Cl.ok at hxx
        have PM := Lib.hid (fun W => message_any kk x.ad x.mc x.to_ x.op x.s x.ti x.a0 x.a1 x.a2 x.a3 x.a4 W hxx.2.1 hxx.2.2.1 hxx.2.2.2.1 hxx.2.2.2.2.1)
        have hxl := blk_lt HXB7.out
        have hr5 : (r6 = 0 ∨ r6 = 1) ∨ r6 = 4 ∨ (r6 = 2 ∨ r6 = 3) ∨ r6 = 5 := by omega
        clear e0
        rcases hr5 with hr5 | hr5 | hr5 | hr5
        · as_aux_lemma =>
          obtain ⟨r, hr⟩ : ∃ r, sendF c B nx (addrN x.ad) (shortS x.s) = r := ⟨_, rfl⟩
          have hinv := HI6.out.send hnx0.1 c (addrN x.ad) (shortS x.s)
          have hol := send_out c B nx (addrN x.ad) (shortS x.s)
          rw [hr] at hinv hol
          obtain ⟨B3, mc9, out, err⟩ := r
          dsimp only at hinv hol
          have PA := Lib.hid (fun W => address_any x.ad W hxx.2.1)
          have PS := Lib.hid (fun W => short_any x.s W hxx.2.2.2.2.2.1)
          have hsz : (shortS x.s).size ≤ 9223372036854775807 := by unfold shortS; rw [ByteArray.size_extract]; have := hxx.2.2.2.2.2.1; omega
          have HSS := Lib.hid hsz
          generalize addrN x.ad = ad at *
          generalize shortS x.s = ss at *
          have HRS := Lib.hid hr; have HIN := Lib.hid hinv
          clear hr hinv hsz PM
          have HYA := Lib.hid (⟨(cell_of_block (k := 1) HXB7.out rfl).1, (cell_of_block (k := 5) HXB7.out rfl).1⟩ : w7.drew.cell? ⟨xb, 1, none⟩ = some (.int .i64 x.ad) ∧ w7.drew.cell? ⟨xb, 5, none⟩ = some (.string x.s))
          have HO7d := Lib.hid (HO7.out.below (Below.refl w7.heap.size w7).drew)
          have HR7d := Lib.hid (HR7.out.below (Below.refl w7.heap.size w7).drew)
          have hr6' := hr6
          rcases hr5 with rfl | rfl
          all_goals
            go_upto_region 20 with fail
            go_region_held3 (fun w' => w'.cell? ⟨xb, 1, none⟩ = some (.int .i64 x.ad) ∧ w'.cell? ⟨xb, 5, none⟩ = some (.string x.s)) ((first | with_reducible exact HYA.out | with_reducible exact HZ.out))
              (first
                | (go_simp; go_at_call 30; (with_reducible refine (PA.out _).mono ?_); rintro e9 w' ⟨rfl, rfl⟩)
                | (go_simp; go_at_call 26; (with_reducible refine (PS.out _).mono ?_); rintro e9 w' ⟨rfl, rfl⟩)
                | (go_simp; go_at_call 23; (refine (HO7d.out.sendF nx ad ss B3 mc9 out err HRS.out HSS.out hin HI6.out.le HI6.out.in64).mono ?_); rintro e9 w9 ⟨B9, k9, rfl, hm9, ho9, hk9⟩; have HXB9 := Lib.hid ((hk9.2 xb (.inr rfl) (blk_lt HXB7.out)).trans HXB7.out); have HZ := Lib.hid (⟨(cell_of_block (k := 1) HXB9.out rfl).1, (cell_of_block (k := 5) HXB9.out rfl).1⟩ : w9.cell? ⟨xb, 1, none⟩ = some (.int .i64 x.ad) ∧ w9.cell? ⟨xb, 5, none⟩ = some (.string x.s)); have HO9 := Lib.hid ho9; have HM9 := Lib.hid hm9; have HR9 := Lib.hid (HR7d.out.stand hk9 (fun q hq => .inl hq)); clear ho9 hk9 hm9))
            go_upto_region 21 with fail
            have hz9 := (HM9.out.bk' : ∀ {q : Nat}, BK B9 q → _)
            have HZ9 : Hid (∀ q, BK B9 q → w7.heap.size ≤ q ∧ q < w9.heap.size) := Lib.hid (fun q hq => HM9.out.bk' hq)
            clear hz9
            have HYB := Lib.hid (⟨(cell_of_block (k := 1) HXB9.out rfl).1, (cell_of_block (k := 5) HXB9.out rfl).1⟩ : w9.drew.cell? ⟨xb, 1, none⟩ = some (.int .i64 x.ad) ∧ w9.drew.cell? ⟨xb, 5, none⟩ = some (.string x.s))
            have HR9d := Lib.hid (HR9.out.below (Below.refl w9.heap.size w9).drew)
            go_region_held3 (fun w' => w'.cell? ⟨xb, 1, none⟩ = some (.int .i64 x.ad) ∧ w'.cell? ⟨xb, 5, none⟩ = some (.string x.s)) ((first | with_reducible exact HYB.out | with_reducible exact HZB.out))
              (first
                | (go_simp; go_at_call 30; (with_reducible refine (PA.out _).mono ?_); rintro e9 w' ⟨rfl, rfl⟩)
                | (go_simp; go_at_call 26; (with_reducible refine (PS.out _).mono ?_); rintro e9 w' ⟨rfl, rfl⟩)
                | (go_simp; go_at_call 31; (refine (HR9d.out.send nx ad ss B3 mc9 out err HRS.out HSS.out HI6.out).mono ?_); rintro e9 w10 ⟨B10, k10, S', rfl, hm10, hr10, hc10, hs10⟩; have HXB10 := Lib.hid ((hc10.block xb (blk_lt HXB9.out) (fun q => by have := (HSL.out xb q).2; omega)).trans HXB9.out); have HZB := Lib.hid (⟨(cell_of_block (k := 1) HXB10.out rfl).1, (cell_of_block (k := 5) HXB10.out rfl).1⟩ : w10.cell? ⟨xb, 1, none⟩ = some (.int .i64 x.ad) ∧ w10.cell? ⟨xb, 5, none⟩ = some (.string x.s)); have HR10 := Lib.hid hr10; have HM10 := Lib.hid hm10; have HC10 := Lib.hid hc10; have HS10 := Lib.hid hs10; clear hr10 hm10 hc10 hs10))
            have HM9' : Hid (MRow w10 w7.heap.size B9 k9 out) := Lib.hid (HM9.out.kept (fun a e => HC10.out.block _ (HZ9.out _ ⟨a, e, rfl⟩).2 (fun q => by have := (HSL.out _ q).2; have := (HZ9.out _ ⟨a, e, rfl⟩).1; omega)))
            have HO10 : Hid (OneA w T c B3 S' w10) := Lib.hid ((HO9.out.below (Below.refl w9.heap.size w9).drew).beside HC10.out (fun q hq => ⟨.inl ⟨.inl hq, by have := (HSL.out q hq).2; show q < w7.heap.size; omega⟩, (HSL.out q hq).1⟩) (fun q hq => (HS10.out q hq).imp (fun hq => .inl ⟨.inl hq, by have := (HSL.out q hq).2; show q < w7.heap.size; omega⟩) id))
            have hsa := sameArps_any out out _ _ B9 B10 k9 k10 w10 HM9'.out HM10.out ⟨by omega, by omega⟩
            rw [decide_eq_true rfl] at hsa
            have HSA := Lib.hid hsa
            have heq : (err == err) = true := by simp
            have hmq : (mc9 == mc9) = true := by simp
            clear hsa
            go_wp2_with (go_at_call 28; refine HSA.out.mono ?_; rintro e11 w11 ⟨rfl, hb11⟩; have HB11 := Lib.hid hb11; clear hb11)
            go_meet
            exact ⟨rfl, c, B3, S', ⟨hc0, by omega⟩, HIN.out, HO10.out.below HB11.out, HR10.out.below HB11.out⟩
        · as_aux_lemma =>
          obtain ⟨r, hr⟩ : ∃ r, tickA c B nx = r := ⟨_, rfl⟩
          have hinv := HI6.out.tick hnx0.1 c
          have hol := tick_out HI6.out c
          rw [hr] at hinv hol
          obtain ⟨B3, out, held⟩ := r
          dsimp only at hinv hol
          have HRS := Lib.hid hr; have HIN := Lib.hid hinv
          clear hr hinv PM
          subst hr5
          go_wp2_with fail
          all_goals first | (exfalso; omega) | skip
          refine (HO7.out.tick nx B3 out held HRS.out hin HI6.out.le HI6.out.in64 HI6.out.some_).mono ?_
          rintro x9 w9 ⟨B9, k9, D9, d9, rfl, hm9, hh9, ho9, hk9⟩
          have HO9 := Lib.hid ho9; have HM9 := Lib.hid hm9; have HH9 := Lib.hid hh9; have HR9 := Lib.hid (HR7.out.stand hk9 (fun q hq => .inl hq))
          clear ho9 hk9 hm9 hh9
          go_wp2_with fail
          refine (HR9.out.tick nx B3 out held HRS.out HI6.out hbd).mono ?_
          rintro x9 w10 ⟨B10, k10, D10, d10, S', rfl, hm10, hh10, hr10, hc10, hs10⟩
          have HR10 := Lib.hid hr10; have HM10 := Lib.hid hm10; have HH10 := Lib.hid hh10
          have HZ9 : Hid (∀ q, BK B9 q ∨ BK D9 q → w7.heap.size ≤ q ∧ q < w9.heap.size) := Lib.hid (fun q hq => hq.elim (fun h => HM9.out.bk' h) (fun h => HH9.out.bk' h))
          have hxw : xb < w7.heap.size := by omega
          have HM9' : Hid (MRow w10 w7.heap.size B9 k9 out) := Lib.hid (HM9.out.kept (fun a e => hc10.block _ (HZ9.out _ (.inl ⟨a, e, rfl⟩)).2 (fun q => by have := (HSL.out _ q).2; have := (HZ9.out _ (.inl ⟨a, e, rfl⟩)).1; omega)))
          have HH9' : Hid (HRow w10 w7.heap.size D9 d9 held) := Lib.hid (HH9.out.kept (fun a e => hc10.block _ (HZ9.out _ (.inr ⟨a, e, rfl⟩)).2 (fun q => by have := (HSL.out _ q).2; have := (HZ9.out _ (.inr ⟨a, e, rfl⟩)).1; omega)))
          have HO10 : Hid (OneA w T c B3 S' w10) := Lib.hid (HO9.out.beside hc10 (fun q hq => ⟨.inl ⟨.inl hq, by have := (HSL.out q hq).2; omega⟩, (HSL.out q hq).1⟩) (fun q hq => (hs10 q hq).imp (fun hq => .inl ⟨.inl hq, by have := (HSL.out q hq).2; omega⟩) id))
          have hsa := sameArps_any out out _ _ B9 B10 k9 k10 w10 HM9'.out HM10.out ⟨by omega, by omega⟩
          rw [decide_eq_true rfl] at hsa
          have HSA := Lib.hid hsa
          have HSH : Hid (∀ W, Below w10.heap.size w10 W → Calls Try.prog 33 #[.slice D9 held.length d9, .slice D10 held.length d10] W fun x w' => x = .returned (.bool true) ∧ Below W.heap.size W w') := Lib.hid (fun W hb => by
            have := sameHeld_any held held _ _ D9 D10 d9 d10 W (HH9'.out.below hb) (HH10.out.below hb) ⟨by omega, by omega⟩
            rwa [decide_eq_true rfl] at this)
          clear hsa hr10 hm10 hh10 hc10 hs10
          go_wp2_with (first | (go_at_call 28; refine HSA.out.mono ?_; rintro e11 w11 ⟨rfl, hb11⟩; have HB11 := Lib.hid hb11; clear hb11) | (go_at_call 33; refine (HSH.out _ HB11.out).mono ?_; rintro e12 w12 ⟨rfl, hb12⟩; have HB12 := Lib.hid (below_call HB11.out hb12); clear hb12))
          go_meet
          exact ⟨rfl, c, B3, S', ⟨hc0, by omega⟩, HIN.out, HO10.out.below HB12.out, HR10.out.below HB12.out⟩
        · as_aux_lemma =>
          obtain ⟨r, hr⟩ : ∃ r, recvA c B nx (msgC x.ad x.mc x.to_ x.op) = r := ⟨_, rfl⟩
          have hinv := HI6.out.recv hnx0.1 c (msgC x.ad x.mc x.to_ x.op)
          have hra := recv_at (A := B) (msgC x.ad x.mc x.to_ x.op) hnx0.1 (⟨hc0, by omega⟩ : 0 ≤ c.at_ ∧ c.at_ ≤ nx)
          have hol := recv_out HI6.out c (msgC x.ad x.mc x.to_ x.op)
          rw [hr] at hinv hra hol
          obtain ⟨c3, B3, out, held⟩ := r
          dsimp only at hinv hra hol
          generalize msgC x.ad x.mc x.to_ x.op = M at *
          obtain ⟨m0, m1, m2, m3, m4⟩ := M
          have HRS := Lib.hid hr; have HIN := Lib.hid hinv; have HRA := Lib.hid hra
          clear hr hinv hra
          have y := fun (j : Nat) (u : Value) (h : (#[.int .u8 kk, .int .i64 x.ad, .int .i64 x.mc, .int .i64 x.to_, .int .i64 x.op, .string x.s, .int .i64 x.ti, .int .i64 x.a0, .int .i64 x.a1, .int .i64 x.a2, .int .i64 x.a3, .int .i64 x.a4] : Array Value)[j]? = some u) => (cell_of_block HXB7.out h).1
          have e0 := y 0 _ rfl; have e1 := y 1 _ rfl; have e2 := y 2 _ rfl; have e3 := y 3 _ rfl; have e4 := y 4 _ rfl; have e5 := y 5 _ rfl; have e6 := y 6 _ rfl; have e7 := y 7 _ rfl; have e8 := y 8 _ rfl; have e9 := y 9 _ rfl; have e10 := y 10 _ rfl; have e11 := y 11 _ rfl
          clear y
          rcases hr5 with rfl | rfl
          all_goals
            go_wp2_with fail
            all_goals first | (exfalso; omega) | skip
            refine (PM.out _).mono ?_
            rintro x9 w8 ⟨rfl, hb8⟩
            have HB8 := Lib.hid hb8
            have e0' := bcell hb8 e0
            clear hb8 e0 e1 e2 e3 e4 e5 e6 e7 e8 e9 e10 e11
            have e0 := e0'
            clear e0'
            dsimp only
            have HX8 := Lib.hid (block_alloc (bblock HB8.out HXB7.out) (.cells #[.int .i64 m0, .int .i64 m1, .int .i64 m2, .int .i64 m3, .int .i64 m4] 23))
            have HM8 := Lib.hid (alloc_new w8 (.cells #[.int .i64 m0, .int .i64 m1, .int .i64 m2, .int .i64 m3, .int .i64 m4] 23))
            have HO8 := Lib.hid (((HO7.out.below HB8.out).more (K' := fun q => (S q ∨ q = xb) ∨ q = w8.heap.size) (fun q e => e.imp id (fun e => by omega))).below ((Below.refl w8.heap.size w8).alloc (Nat.le_refl _) (.cells #[.int .i64 m0, .int .i64 m1, .int .i64 m2, .int .i64 m3, .int .i64 m4] 23)))
            have HR8 := Lib.hid ((HR7.out.below HB8.out).below ((Below.refl w8.heap.size w8).alloc (Nat.le_refl _) (.cells #[.int .i64 m0, .int .i64 m1, .int .i64 m2, .int .i64 m3, .int .i64 m4] 23)))
            have hz8 := HB8.out.size
            have hx9 : xb < w8.heap.size := by omega
            have hz8a : (w8.alloc (.cells #[.int .i64 m0, .int .i64 m1, .int .i64 m2, .int .i64 m3, .int .i64 m4] 23)).heap.size = w8.heap.size + 1 := by simp
            go_upto_region 15 with fail
            obtain ⟨mb, hmb⟩ : ∃ mb, w8.heap.size = mb := ⟨_, rfl⟩
            rw [hmb] at HM8 HO8 hz8 hz8a hx9 ⊢
            clear hmb
            generalize w8.alloc (.cells #[.int .i64 m0, .int .i64 m1, .int .i64 m2, .int .i64 m3, .int .i64 m4] 23) = w8a at *
            clear e0
            obtain ⟨⟨n0, n1, n2, n3, n4⟩, -⟩ := cells5 HM8.out
            go_wp2_with fail
            refine (HO8.out.recv nx m0 m1 m2 m3 m4 c3 B3 out held HRS.out hin (by unfold In64; omega)).mono ?_
            rintro x9 w9 ⟨B9, k9, D9, d9, rfl, hm9, hh9, ho9, hk9⟩
            have HM8' := Lib.hid ((hk9.2 mb (.inr rfl) (blk_lt HM8.out)).trans HM8.out)
            have HO9 := Lib.hid ho9; have HM9 := Lib.hid hm9; have HH9 := Lib.hid hh9; have HR9 := Lib.hid (HR8.out.stand hk9 (fun q hq => .inl (.inl hq)))
            clear ho9 hk9 hm9 hh9 n0 n1 n2 n3 n4
            obtain ⟨⟨n0, n1, n2, n3, n4⟩, -⟩ := cells5 HM8'.out
            go_wp2_with fail
            refine (HR9.out.recv nx m0 m1 m2 m3 m4 c3 B3 out held HRS.out HI6.out hbd ⟨hc0, by omega⟩).mono ?_
            rintro x9 w10 ⟨B10, k10, D10, d10, S', rfl, hm10, hh10, hr10, hc10, hs10⟩
            clear n0 n1 n2 n3 n4
            have HR10 := Lib.hid hr10; have HM10 := Lib.hid hm10; have HH10 := Lib.hid hh10
            have HZ9 : Hid (∀ q, BK B9 q ∨ BK D9 q → w8a.heap.size ≤ q ∧ q < w9.heap.size) := Lib.hid (fun q hq => hq.elim (fun h => HM9.out.bk' h) (fun h => HH9.out.bk' h))
            have hxw : xb < w8a.heap.size := by omega
            have HM9' : Hid (MRow w10 w8a.heap.size B9 k9 out) := Lib.hid (HM9.out.kept (fun a e => hc10.block _ (HZ9.out _ (.inl ⟨a, e, rfl⟩)).2 (fun q => by have := (HSL.out _ q).2; have := (HZ9.out _ (.inl ⟨a, e, rfl⟩)).1; omega)))
            have HH9' : Hid (HRow w10 w8a.heap.size D9 d9 held) := Lib.hid (HH9.out.kept (fun a e => hc10.block _ (HZ9.out _ (.inr ⟨a, e, rfl⟩)).2 (fun q => by have := (HSL.out _ q).2; have := (HZ9.out _ (.inr ⟨a, e, rfl⟩)).1; omega)))
            have HO10 : Hid (OneA w T c3 B3 S' w10) := Lib.hid (HO9.out.beside hc10 (fun q hq => ⟨.inl ⟨.inl (.inl hq), by have := (HSL.out q hq).2; omega⟩, (HSL.out q hq).1⟩) (fun q hq => (hs10 q hq).imp (fun hq => .inl ⟨.inl (.inl hq), by have := (HSL.out q hq).2; omega⟩) id))
            have hsa := sameArps_any out out _ _ B9 B10 k9 k10 w10 HM9'.out HM10.out ⟨by omega, by omega⟩
            rw [decide_eq_true rfl] at hsa
            have HSA := Lib.hid hsa
            have HSH : Hid (∀ W, Below w10.heap.size w10 W → Calls Try.prog 33 #[.slice D9 held.length d9, .slice D10 held.length d10] W fun x w' => x = .returned (.bool true) ∧ Below W.heap.size W w') := Lib.hid (fun W hb => by
              have := sameHeld_any held held _ _ D9 D10 d9 d10 W (HH9'.out.below hb) (HH10.out.below hb) ⟨by omega, by omega⟩
              rwa [decide_eq_true rfl] at this)
            clear hsa hr10 hm10 hh10 hc10 hs10
            go_wp2_with (first | (go_at_call 28; refine HSA.out.mono ?_; rintro e11 w11 ⟨rfl, hb11⟩; have HB11 := Lib.hid hb11; clear hb11) | (go_at_call 33; refine (HSH.out _ HB11.out).mono ?_; rintro e12 w12 ⟨rfl, hb12⟩; have HB12 := Lib.hid (below_call HB11.out hb12); clear hb12))
            go_meet
            exact ⟨rfl, c3, B3, S', HRA.out, HIN.out, HO10.out.below HB12.out, HR10.out.below HB12.out⟩
        · as_aux_lemma =>
          obtain ⟨r, hr⟩ : ∃ r, recvA c B nx ⟨x.a0, x.a1, x.a2, x.a3, x.a4⟩ = r := ⟨_, rfl⟩
          have hinv := HI6.out.recv hnx0.1 c ⟨x.a0, x.a1, x.a2, x.a3, x.a4⟩
          have hra := recv_at (A := B) ⟨x.a0, x.a1, x.a2, x.a3, x.a4⟩ hnx0.1 (⟨hc0, by omega⟩ : 0 ≤ c.at_ ∧ c.at_ ≤ nx)
          have hol := recv_out HI6.out c ⟨x.a0, x.a1, x.a2, x.a3, x.a4⟩
          rw [hr] at hinv hra hol
          obtain ⟨c3, B3, out, held⟩ := r
          dsimp only at hinv hra hol
          generalize msgC x.ad x.mc x.to_ x.op = M at *
          have HRS := Lib.hid hr; have HIN := Lib.hid hinv; have HRA := Lib.hid hra
          clear hr hinv hra
          have y := fun (j : Nat) (u : Value) (h : (#[.int .u8 kk, .int .i64 x.ad, .int .i64 x.mc, .int .i64 x.to_, .int .i64 x.op, .string x.s, .int .i64 x.ti, .int .i64 x.a0, .int .i64 x.a1, .int .i64 x.a2, .int .i64 x.a3, .int .i64 x.a4] : Array Value)[j]? = some u) => (cell_of_block HXB7.out h).1
          have e0 := y 0 _ rfl; have e1 := y 1 _ rfl; have e2 := y 2 _ rfl; have e3 := y 3 _ rfl; have e4 := y 4 _ rfl; have e5 := y 5 _ rfl; have e6 := y 6 _ rfl; have e7 := y 7 _ rfl; have e8 := y 8 _ rfl; have e9 := y 9 _ rfl; have e10 := y 10 _ rfl; have e11 := y 11 _ rfl
          clear y
          subst hr5
          · go_wp2_with fail
            all_goals first | (exfalso; omega) | skip
            refine (PM.out _).mono ?_
            rintro x9 w8 ⟨rfl, hb8⟩
            have HB8 := Lib.hid hb8
            have e0' := bcell hb8 e0; have e7' := bcell hb8 e7; have e8' := bcell hb8 e8; have e9' := bcell hb8 e9; have e10' := bcell hb8 e10; have e11' := bcell hb8 e11
            clear hb8 e0 e1 e2 e3 e4 e5 e6 e7 e8 e9 e10 e11
            have e0 := e0'; have e7 := e7'; have e8 := e8'; have e9 := e9'; have e10 := e10'; have e11 := e11'
            clear e0' e7' e8' e9' e10' e11'
            have HX8 := Lib.hid (block_alloc (bblock HB8.out HXB7.out) (.cells #[.int .i64 x.a0, .int .i64 x.a1, .int .i64 x.a2, .int .i64 x.a3, .int .i64 x.a4] 23))
            have HM8 := Lib.hid (alloc_new w8 (.cells #[.int .i64 x.a0, .int .i64 x.a1, .int .i64 x.a2, .int .i64 x.a3, .int .i64 x.a4] 23))
            have HO8 := Lib.hid (((HO7.out.below HB8.out).more (K' := fun q => (S q ∨ q = xb) ∨ q = w8.heap.size) (fun q e => e.imp id (fun e => by omega))).below ((Below.refl w8.heap.size w8).alloc (Nat.le_refl _) (.cells #[.int .i64 x.a0, .int .i64 x.a1, .int .i64 x.a2, .int .i64 x.a3, .int .i64 x.a4] 23)))
            have HR8 := Lib.hid ((HR7.out.below HB8.out).below ((Below.refl w8.heap.size w8).alloc (Nat.le_refl _) (.cells #[.int .i64 x.a0, .int .i64 x.a1, .int .i64 x.a2, .int .i64 x.a3, .int .i64 x.a4] 23)))
            have hz8 := HB8.out.size
            have hx9 : xb < w8.heap.size := by omega
            have hz8a : (w8.alloc (.cells #[.int .i64 x.a0, .int .i64 x.a1, .int .i64 x.a2, .int .i64 x.a3, .int .i64 x.a4] 23)).heap.size = w8.heap.size + 1 := by simp
            go_upto_region 15 with fail
            obtain ⟨mb, hmb⟩ : ∃ mb, w8.heap.size = mb := ⟨_, rfl⟩
            rw [hmb] at HM8 HO8 hz8 hz8a hx9 ⊢
            clear hmb
            generalize w8.alloc (.cells #[.int .i64 x.a0, .int .i64 x.a1, .int .i64 x.a2, .int .i64 x.a3, .int .i64 x.a4] 23) = w8a at *
            clear e0 e7 e8 e9 e10 e11
            obtain ⟨⟨n0, n1, n2, n3, n4⟩, -⟩ := cells5 HM8.out
            go_wp2_with fail
            refine (HO8.out.recv nx x.a0 x.a1 x.a2 x.a3 x.a4 c3 B3 out held HRS.out hin (by unfold In64; omega)).mono ?_
            rintro x9 w9 ⟨B9, k9, D9, d9, rfl, hm9, hh9, ho9, hk9⟩
            have HM8' := Lib.hid ((hk9.2 mb (.inr rfl) (blk_lt HM8.out)).trans HM8.out)
            have HO9 := Lib.hid ho9; have HM9 := Lib.hid hm9; have HH9 := Lib.hid hh9; have HR9 := Lib.hid (HR8.out.stand hk9 (fun q hq => .inl (.inl hq)))
            clear ho9 hk9 hm9 hh9 n0 n1 n2 n3 n4
            obtain ⟨⟨n0, n1, n2, n3, n4⟩, -⟩ := cells5 HM8'.out
            go_wp2_with fail
            refine (HR9.out.recv nx x.a0 x.a1 x.a2 x.a3 x.a4 c3 B3 out held HRS.out HI6.out hbd ⟨hc0, by omega⟩).mono ?_
            rintro x9 w10 ⟨B10, k10, D10, d10, S', rfl, hm10, hh10, hr10, hc10, hs10⟩
            clear n0 n1 n2 n3 n4
            have HR10 := Lib.hid hr10; have HM10 := Lib.hid hm10; have HH10 := Lib.hid hh10
            have HZ9 : Hid (∀ q, BK B9 q ∨ BK D9 q → w8a.heap.size ≤ q ∧ q < w9.heap.size) := Lib.hid (fun q hq => hq.elim (fun h => HM9.out.bk' h) (fun h => HH9.out.bk' h))
            have hxw : xb < w8a.heap.size := by omega
            have HM9' : Hid (MRow w10 w8a.heap.size B9 k9 out) := Lib.hid (HM9.out.kept (fun a e => hc10.block _ (HZ9.out _ (.inl ⟨a, e, rfl⟩)).2 (fun q => by have := (HSL.out _ q).2; have := (HZ9.out _ (.inl ⟨a, e, rfl⟩)).1; omega)))
            have HH9' : Hid (HRow w10 w8a.heap.size D9 d9 held) := Lib.hid (HH9.out.kept (fun a e => hc10.block _ (HZ9.out _ (.inr ⟨a, e, rfl⟩)).2 (fun q => by have := (HSL.out _ q).2; have := (HZ9.out _ (.inr ⟨a, e, rfl⟩)).1; omega)))
            have HO10 : Hid (OneA w T c3 B3 S' w10) := Lib.hid (HO9.out.beside hc10 (fun q hq => ⟨.inl ⟨.inl (.inl hq), by have := (HSL.out q hq).2; omega⟩, (HSL.out q hq).1⟩) (fun q hq => (hs10 q hq).imp (fun hq => .inl ⟨.inl (.inl hq), by have := (HSL.out q hq).2; omega⟩) id))
            have hsa := sameArps_any out out _ _ B9 B10 k9 k10 w10 HM9'.out HM10.out ⟨by omega, by omega⟩
            rw [decide_eq_true rfl] at hsa
            have HSA := Lib.hid hsa
            have HSH : Hid (∀ W, Below w10.heap.size w10 W → Calls Try.prog 33 #[.slice D9 held.length d9, .slice D10 held.length d10] W fun x w' => x = .returned (.bool true) ∧ Below W.heap.size W w') := Lib.hid (fun W hb => by
              have := sameHeld_any held held _ _ D9 D10 d9 d10 W (HH9'.out.below hb) (HH10.out.below hb) ⟨by omega, by omega⟩
              rwa [decide_eq_true rfl] at this)
            clear hsa hr10 hm10 hh10 hc10 hs10
            go_wp2_with (first | (go_at_call 28; refine HSA.out.mono ?_; rintro e11 w11 ⟨rfl, hb11⟩; have HB11 := Lib.hid hb11; clear hb11) | (go_at_call 33; refine (HSH.out _ HB11.out).mono ?_; rintro e12 w12 ⟨rfl, hb12⟩; have HB12 := Lib.hid (below_call HB11.out hb12); clear hb12))
            go_meet
            exact ⟨rfl, c3, B3, S', HRA.out, HIN.out, HO10.out.below HB12.out, HR10.out.below HB12.out⟩
      case rest =>
        as_aux_lemma =>
        obtain ⟨rfl, c2, B2, S2, hat, hinv, ho, hr⟩ := hcut
        obtain ⟨w8, rfl⟩ : ∃ wo : World, wo = wc := ⟨_, rfl⟩
        have HO8 := Lib.hid ho; have HR8 := Lib.hid hr; have HI8 := Lib.hid hinv; have HAT := Lib.hid hat
        clear ho hr hinv hat HO7 HR7 HXB7 e0
        have HSZ := Lib.hid (HO8.out.sizes B2.length (sumA B2) rfl rfl HI8.out.le)
        have HSR := Lib.hid (fun W (hb : Below w8.heap.size w8 W) => (HR8.out.below hb).sizes B2.length (sumA B2) rfl rfl HI8.out)
        have hlen := HI8.out.len
        generalize B2.length = n2 at *
        generalize sumA B2 = z2 at *
        have f1 : ((n2 : Int) != (n2 : Int)) = false := by simp
        have f2 : (z2 != z2) = false := by simp
        go_wp2_with fail
        all_goals first | (exfalso; omega) | skip
        refine HSZ.out.mono ?_
        rintro x9 w9 ⟨rfl, hb9⟩
        have HB9 := Lib.hid hb9
        clear hb9
        go_wp2_with fail
        refine (HSR.out w9 HB9.out).mono ?_
        rintro x9 w10 ⟨rfl, rfl⟩
        have HO9 := Lib.hid (HO8.out.below HB9.out); have HR9 := Lib.hid (HR8.out.below HB9.out)
        clear HO8 HR8 HSZ HSR HB9
        go_wp2_with fail
        all_goals first | (exfalso; omega) | skip
        go_loopw [35] (fun jv wr => ∃ j : Nat, j ≤ 24 ∧ jv = .int .i64 (10 + (j : Int)) ∧ wr = w9) (fun jv _ => 34 - (Go.RowKit.intOf jv).toNat)
        case atStart => exact ⟨0, by omega, by simp, rfl⟩
        case round =>
          obtain ⟨j, hj, rfl, rfl⟩ := hrel
          obtain ⟨w9, rfl⟩ : ∃ wo : World, wo = wr := ⟨_, rfl⟩
          by_cases hj2 : j < 24
          · have d5 : decide (10 + (j : Int) < 34) = true := decide_eq_true (by omega)
            have d6 : IntKind.i64.wrap (10 + (j : Int) + 1) = 10 + (j : Int) + 1 := IntWalk.i64_in _ (by omega)
            obtain ⟨mv, bv, hkv⟩ : ∃ (mv : Int) (bv : Bool), knownV (look B2 (10 + (j : Int))) = .tuple #[.int .i64 mv, .bool bv] := by
              unfold knownV
              cases look B2 (10 + (j : Int)) with
              | none => exact ⟨0, false, rfl⟩
              | some v => cases v with
                | inc held sent first last => exact ⟨0, false, rfl⟩
                | res mac since used => exact ⟨mac, true, rfl⟩
            have HK1 := Lib.hid (HO9.out.known (10 + (j : Int)) _ hkv)
            have HK2 := Lib.hid (HR9.out.known (10 + (j : Int)) _ hkv HI8.out.le)
            have g1 : (mv != mv) = false := by simp
            have g2 : (bv != bv) = false := by simp
            clear hkv
            obtain ⟨jj, hjj⟩ : ∃ jj : Int, 10 + (j : Int) = jj := ⟨_, rfl⟩
            rw [hjj] at HK1 HK2 d5 d6 ⊢
            go_wp2_with (first | (go_at_call 24; refine HK1.out.mono ?_; rintro e9 w' ⟨rfl, rfl⟩) | (go_at_call 36; refine HK2.out.mono ?_; rintro e9 w' ⟨rfl, rfl⟩))
            all_goals first | (exfalso; omega) | skip
            go_roundw
            case rel => exact ⟨j + 1, by omega, by rw [← hjj]; go_num, trivial⟩
            case measure => simp [Go.RowKit.intOf]; omega
          · obtain rfl : j = 24 := by omega
            have d5 : decide (10 + ((24 : Nat) : Int) < 34) = false := by decide
            go_wp2_with fail
            all_goals first | (exfalso; omega) | skip
            go_roundw
            case rel => exact ⟨k + 1, nx, c2, B2, S2, by omega, by omega, by go_num, rfl, by omega, HAT.out, HI8.out, HO9.out, HR9.out⟩
            case measure => simp [Go.RowKit.intOf]; omega
end Go.Proofs.Ytjdoemmfemogmaa.Ar
