/-
  The walk of the law ICMPPathsMatchReference.
-/
import Derived.Test.YtmcfllogcmnnoaaDoorIcL45
import Derived.Test.YtmcfllogcmnnoaaDoorIcP2
import Derived.Test.YtmcfllogcmnnoaaDoorHeld
namespace Go.Proofs.YtmcfllogcmnnoaaDoor.Ic
set_option maxRecDepth 100000
open Go.RowKit Go.Proofs.YtmcfllogcmnnoaaDoor.Wire Go.Proofs.YtmcfllogcmnnoaaDoor.Gen
open Go.Proofs.YtmcfllogcmnnoaaDoor.Ip (In64)

section
variable {b0 B B2 : Nat} {W0 W W1 : World} {l l2 : List En}
theorem duo_len' (h : Duo b0 W0 B B2 l l2 W) (hb : Below W.heap.size W W1) : Calls Tryd.prog 32 #[.pointer (some ⟨B, 0, none⟩)] W1 fun e w' => e = .returned (.int .i64 l.length) ∧ Below W.heap.size W w' := by
  obtain ⟨row, D, d, h1, h2, h3, h4⟩ := h.ex
  refine (plen_any row B l W1 (h1.below hb)).mono ?_
  rintro e w' ⟨rfl, hb'⟩
  exact ⟨rfl, below_call hb hb'⟩
theorem duo_size' (now tt mtu : Int) (h : Duo b0 W0 B B2 l l2 W) (hb : Below W.heap.size W W1) : Calls Tryd.prog 33 #[.pointer (some ⟨B, 0, none⟩), .int .i64 now, .int .i64 tt, .int .i64 mtu] W1 fun e w' => e = .returned (.int .i64 (sizeE l now tt mtu)) ∧ Below W.heap.size W w' := by
  obtain ⟨row, D, d, h1, h2, h3, h4⟩ := h.ex
  refine (size_any row B l now tt mtu W1 (h1.below hb) h.k1).mono ?_
  rintro e w' ⟨rfl, hb'⟩
  exact ⟨rfl, below_call hb hb'⟩
theorem duo_rsize' (now tt mtu : Int) (h : Duo b0 W0 B B2 l l2 W) (hb : Below W.heap.size W W1) : Calls Tryd.prog 34 #[.pointer (some ⟨B2, 0, none⟩), .int .i64 now, .int .i64 tt, .int .i64 mtu] W1 fun e w' => e = .returned (.int .i64 (sizeE l2 now tt mtu)) ∧ Below W.heap.size W w' := by
  obtain ⟨row, D, d, h1, h2, h3, h4⟩ := h.ex
  refine (rsize_ref now tt mtu W1 (h3.below hb) h.k2).mono ?_
  rintro e w' ⟨rfl, rfl⟩
  exact ⟨by rw [rsizeE_eq h.k2], hb⟩
end
set_option maxHeartbeats 8000000 in
theorem paths_law (A : Option Addr) (n c : Nat) (l : List Cl) (now0 tt mtu : Int) (a0 a1 : Addr) (w : World) (hg : GlE w a0 a1) (hA : ArgC w A n l) (hn0 : In64 now0) :
    Calls Tryd.prog 9 #[.slice A n c, .int .i64 now0, .int .i64 tt, .int .i64 mtu] w fun e w' => e = .returned (.bool true) ∧ Below w.heap.size w w' := by
  have HS := Lib.hid (sane_any a0 a1 w hg)
  have HA := Lib.hid hA
  have hn := hA.size
  have P0 := Lib.hid fun W => pick8_any now0 1000000000 W hn0 (by omega) (by omega)
  have b0 := pick_lt now0 1000000000 (by omega)
  generalize pick now0 1000000000 = t0 at *
  clear hg hA hn0
  go_enter Tryd.func9, Tryd.ntmps9
  go_wp2_with (first | (go_at_call 13; (with_reducible refine HS.out.mono ?_); rintro e v1 ⟨rfl, hb1⟩) | (go_at_call 28; (with_reducible refine (own_new _).mono ?_); rintro e v2 ⟨rfl, hO⟩; have HO := Lib.hid hO; clear hO) | (go_at_call 23; (with_reducible refine (P0.out _).mono ?_); rintro e w' ⟨rfl, rfl⟩))
  have hD := duo_new v1 HO.out rfl
  obtain ⟨B2, hB2⟩ : ∃ B2, v2.heap.size = B2 := ⟨_, rfl⟩
  rw [hB2] at hD ⊢
  clear hB2 HO
  generalize v2.alloc (.cells #[.slice none 0 0] 57) = v3 at *
  go_loopw [1, 12, 13, 14, 15] (fun nw i _ _ _ wr => ∃ (k : Nat) (t : Int) (tb : List En), k ≤ n ∧ k ≤ 60 ∧ i = .int .i64 (k : Int) ∧ nw = .int .i64 t ∧ 0 ≤ t ∧ t ≤ 1000000000 + 200 * (k : Int) ∧ Duo v1.heap.size v1 v1.heap.size B2 tb tb wr) (fun _ i _ _ _ _ => 60 - (Go.RowKit.intOf i).toNat)
  case atStart => exact ⟨0, t0, [], by omega, by omega, rfl, rfl, by omega, by omega, hD⟩
  case round =>
    clear hD
    obtain ⟨k, t, tb, hkn, hk60, rfl, rfl, ht0, ht1, hD⟩ := hrel
    have HD := Lib.hid hD
    have HB := Lib.hid (below_call hb1 hD.below)
    clear hD
    obtain ⟨wx, rfl⟩ : ∃ wo : World, wo = wr := ⟨_, rfl⟩
    by_cases hend : k < n ∧ k < 60
    · obtain ⟨hlt, hlt2⟩ := hend
      obtain ⟨b, o, x, rfl, hx, hbl, ⟨i0, i1, i2, i3⟩, c0, c1, c2, c3⟩ := HA.out.at_ k hlt
      have k1 : (0 : Int) ≤ (k : Int) := by omega
      have k2 : (k : Int) < (n : Int) := by omega
      have k3 : (k : Int) < 60 := by omega
      have e1 : decide ((k : Int) < (n : Int)) = true := decide_eq_true k2
      have e2 : decide ((k : Int) < 60) = true := decide_eq_true k3
      have d0 := (HB.out.cell (p := ⟨b, o + k * 4, none⟩) hbl).trans c0
      have d1 := (HB.out.cell (p := ⟨b, o + k * 4 + 1, none⟩) hbl).trans c1
      have d2 := (HB.out.cell (p := ⟨b, o + k * 4 + 2, none⟩) hbl).trans c2
      have d3 := (HB.out.cell (p := ⟨b, o + k * 4 + 3, none⟩) hbl).trans c3
      have P1 := Lib.hid fun W => pick8_any x.later 200 W i1 (by omega) (by omega)
      have b1 := pick_lt x.later 200 (by omega)
      have LW := Lib.hid fun (now : Int) W => lw_any now x W i2 i3
      clear hx c0 c1 c2 c3 i0 i1 i2 i3
      generalize pick x.later 200 = pl at *
      have wl : IntKind.i64.wrap (t + pl) = t + pl := IntWalk.i64_in _ (by omega)
      have LW2 := Lib.hid (fun W => LW.out (t + pl) W)
      obtain ⟨ta, hta⟩ : ∃ ta, lwNow (t + pl) x = ta := ⟨_, rfl⟩
      obtain ⟨tb_, htb⟩ : ∃ tb_, lwTo x = tb_ := ⟨_, rfl⟩
      obtain ⟨tc, htc⟩ : ∃ tc, lwSize x = tc := ⟨_, rfl⟩
      rw [hta, htb, htc] at LW2
      clear hta htb htc LW
      go_upto_region 10 with (first | (go_at_call 23; (with_reducible refine (P1.out _).mono ?_); rintro e w' ⟨rfl, rfl⟩) | (go_at_call 29; (with_reducible refine (LW2.out _).mono ?_); rintro e u0 ⟨rfl, hu0⟩; have hD0 := HD.out.later hu0))
      clear d0 d1 d2 d3 hu0 wl
      have hb' : 0 ≤ t + pl ∧ t + pl ≤ 1000000000 + 200 * ((k : Int) + 1) := by omega
      obtain ⟨t', ht'⟩ : ∃ t', t + pl = t' := ⟨_, rfl⟩
      rw [ht'] at hb' ⊢
      clear ht' LW2
      obtain ⟨tb2, htb2⟩ : ∃ tb2, lowL tb ta tb_ tc = tb2 := ⟨_, rfl⟩
      obtain ⟨bb, hbb⟩ : ∃ bb, lowB tb ta tb_ tc = bb := ⟨_, rfl⟩
      obtain ⟨ln, hln⟩ : ∃ ln, tb2.length = ln := ⟨_, rfl⟩
      obtain ⟨z1, hz1⟩ : ∃ z1, sizeE tb2 t' tb_ mtu = z1 := ⟨_, rfl⟩
      obtain ⟨z2, hz2⟩ : ∃ z2, sizeE tb2 t' tt mtu = z2 := ⟨_, rfl⟩
      obtain ⟨z3, hz3⟩ : ∃ z3, sizeE tb2 mtu tt t' = z3 := ⟨_, rfl⟩
      have HTB := Lib.hid htb2; have HBB := Lib.hid hbb; have HLN := Lib.hid hln; have HZ1 := Lib.hid hz1; have HZ2 := Lib.hid hz2; have HZ3 := Lib.hid hz3
      clear htb2 hbb hln hz1 hz2 hz3
      have q0 : (bb != bb) = false := by simp
      have q1 : ((ln : Int) != (ln : Int)) = false := by simp
      have q2 : (z1 != z1) = false := by simp
      have q3 : (z2 != z2) = false := by simp
      have q4 : (z3 != z3) = false := by simp
      refine wp_region_held_drew (S := fun _ => True) (by kernel_rfl) trivial ?_
      intro hS
      refine wpAnyH_take (i := 0) (oi := ⟨some 50, _, _, _, _, _⟩) (v := ?vn1i0) rfl (by kernel_rfl) (by kernel_rfl) (by kernel_rfl) (fun _ _ _ h => h) (Or.inl ⟨by rfl, ?hyn1i0⟩) (by exact hS) ?ren1i0
      case hyn1i0 => (intro ww hSw; (try dsimp only at hSw); go_simp; first | done | with_reducible rfl)
      try simp only [Act.put, List.setIfInBounds_toArray, List.set_cons_zero, List.set_cons_succ]
      refine wpAnyH_take (i := 1) (oi := ⟨some 51, _, _, _, _, _⟩) (v := ?vn1i1) rfl (by kernel_rfl) (by kernel_rfl) (by kernel_rfl) (fun _ _ _ h => h) (Or.inl ⟨by rfl, ?hyn1i1⟩) (by exact hS) ?ren1i1
      case hyn1i1 => (intro ww hSw; (try dsimp only at hSw); go_simp; first | done | with_reducible rfl)
      try simp only [Act.put, List.setIfInBounds_toArray, List.set_cons_zero, List.set_cons_succ]
      refine wpAnyH_take (i := 2) (oi := ⟨some 52, _, _, _, _, _⟩) (v := ?vn1i2) rfl (by kernel_rfl) (by kernel_rfl) (by kernel_rfl) (fun _ _ _ h => h) (Or.inl ⟨by rfl, ?hyn1i2⟩) (by exact hS) ?ren1i2
      case hyn1i2 => (intro ww hSw; (try dsimp only at hSw); go_simp; first | done | with_reducible rfl)
      try simp only [Act.put, List.setIfInBounds_toArray, List.set_cons_zero, List.set_cons_succ]
      refine wpAnyH_take (i := 3) (oi := ⟨some 53, _, _, _, _, _⟩) (v := ?vn1i3) rfl (by kernel_rfl) (by kernel_rfl) (by kernel_rfl) (fun _ _ _ h => h) (Or.inl ⟨by rfl, ?hyn1i3⟩) (by exact hS) ?ren1i3
      case hyn1i3 => (intro ww hSw; (try dsimp only at hSw); go_simp; first | done | with_reducible rfl)
      try simp only [Act.put, List.setIfInBounds_toArray, List.set_cons_zero, List.set_cons_succ]
      refine wpAnyH_take (i := 5) (oi := ⟨some 55, _, _, _, _, _⟩) (v := ?vn1i5) rfl (by kernel_rfl) (by kernel_rfl) (by kernel_rfl) (fun _ _ _ h => h) (Or.inl ⟨by rfl, ?hyn1i5⟩) (by exact hS) ?ren1i5
      case hyn1i5 => (intro ww hSw; (try dsimp only at hSw); go_simp; first | done | with_reducible rfl)
      try simp only [Act.put, List.setIfInBounds_toArray, List.set_cons_zero, List.set_cons_succ]
      refine wpAnyH_take (i := 6) (oi := ⟨some 56, _, _, _, _, _⟩) (v := ?vn1i6) rfl (by kernel_rfl) (by kernel_rfl) (by kernel_rfl) (fun _ _ _ h => h) (Or.inl ⟨by rfl, ?hyn1i6⟩) (by exact hS) ?ren1i6
      case hyn1i6 => (intro ww hSw; (try dsimp only at hSw); go_simp; first | done | with_reducible rfl)
      try simp only [Act.put, List.setIfInBounds_toArray, List.set_cons_zero, List.set_cons_succ]
      refine wpAnyH_take (i := 7) (oi := ⟨some 57, _, _, _, _, _⟩) (v := ?vn1i7) rfl (by kernel_rfl) (by kernel_rfl) (by kernel_rfl) (fun _ _ _ h => h) (Or.inl ⟨by rfl, ?hyn1i7⟩) (by exact hS) ?ren1i7
      case hyn1i7 => (intro ww hSw; (try dsimp only at hSw); go_simp; first | done | with_reducible rfl)
      try simp only [Act.put, List.setIfInBounds_toArray, List.set_cons_zero, List.set_cons_succ]
      refine wpAnyH_take (i := 8) (oi := ⟨some 58, _, _, _, _, _⟩) (v := ?vn1i8) rfl (by kernel_rfl) (by kernel_rfl) (by kernel_rfl) (fun _ _ _ h => h) (Or.inl ⟨by rfl, ?hyn1i8⟩) (by exact hS) ?ren1i8
      case hyn1i8 => (intro ww hSw; (try dsimp only at hSw); go_simp; first | done | with_reducible rfl)
      try simp only [Act.put, List.setIfInBounds_toArray, List.set_cons_zero, List.set_cons_succ]
      refine wpAnyH_ready (rs := [4]) (by kernel_rfl) (by simp) ?_
      refine AllReadyH.cons (o := ⟨some 54, _, _, _, _, _⟩) rfl (fun Ka hKa => ?_) AllReadyH.nil
      go_simp
      refine (duo_lower ta tb_ tc (hD0.later (Below.refl u0.heap.size u0).drew)).mono ?_
      rintro e u1 ⟨rfl, hD1⟩
      rw [HTB.out] at hD1
      rw [HBB.out]
      refine hKa.out _ _ trivial (fun ha => ?_)
      try simp only [Act.put, List.setIfInBounds_toArray, List.set_cons_zero, List.set_cons_succ]
      refine wpAnyH_ready (rs := [9]) (by kernel_rfl) (by simp) ?_
      refine AllReadyH.cons (o := ⟨some 59, _, _, _, _, _⟩) rfl (fun Kb hKb => ?_) AllReadyH.nil
      go_simp
      refine (duo_rlower ta tb_ tc hD1).mono ?_
      rintro e u2 ⟨rfl, hD2⟩
      rw [HTB.out] at hD2
      rw [HBB.out]
      refine hKb.out _ _ trivial (fun hb => ?_)
      try simp only [Act.put, List.setIfInBounds_toArray, List.set_cons_zero, List.set_cons_succ]
      obtain ⟨D2, d2, hc2⟩ := hD2.cell
      rw [HLN.out] at hc2
      have HD2 := Lib.hid hD2; have HC2 := Lib.hid hc2
      clear hD1 hD2 hc2 ha hb
      refine wpAnyH_sharpen (S1 := fun w' => w'.cell? ⟨B2, 0, none⟩ = some (.slice D2 ln d2)) (fun _ _ => trivial) _ _ _ _ ?_
      refine wpAnyH_take (i := 10) (oi := ⟨some 60, _, _, _, _, _⟩) (v := ?vn2i10) rfl (by kernel_rfl) (by kernel_rfl) (by kernel_rfl) (fun _ _ _ h => h) (Or.inl ⟨by rfl, ?hyn2i10⟩) (by exact HC2.out) ?ren2i10
      case hyn2i10 => (intro ww hSw; (try dsimp only at hSw); go_simp; first | done | with_reducible rfl)
      try simp only [Act.put, List.setIfInBounds_toArray, List.set_cons_zero, List.set_cons_succ]
      refine wpAnyH_take (i := 11) (oi := ⟨some 61, _, _, _, _, _⟩) (v := ?vn2i11) rfl (by kernel_rfl) (by kernel_rfl) (by kernel_rfl) (fun _ _ _ h => h) (Or.inl ⟨by rfl, ?hyn2i11⟩) (by exact HC2.out) ?ren2i11
      case hyn2i11 => (intro ww hSw; (try dsimp only at hSw); go_simp; first | done | with_reducible rfl)
      try simp only [Act.put, List.setIfInBounds_toArray, List.set_cons_zero, List.set_cons_succ]
      refine wpAnyH_take (i := 12) (oi := ⟨some 62, _, _, _, _, _⟩) (v := ?vn2i12) rfl (by kernel_rfl) (by kernel_rfl) (by kernel_rfl) (fun _ _ _ h => h) (Or.inl ⟨by rfl, ?hyn2i12⟩) (by exact HC2.out) ?ren2i12
      case hyn2i12 => (intro ww hSw; (try dsimp only at hSw); go_simp; first | done | with_reducible rfl)
      try simp only [Act.put, List.setIfInBounds_toArray, List.set_cons_zero, List.set_cons_succ]
      refine wpAnyH_take (i := 14) (oi := ⟨some 64, _, _, _, _, _⟩) (v := ?vn2i14) rfl (by kernel_rfl) (by kernel_rfl) (by kernel_rfl) (fun _ _ _ h => h) (Or.inl ⟨by rfl, ?hyn2i14⟩) (by exact HC2.out) ?ren2i14
      case hyn2i14 => (intro ww hSw; (try dsimp only at hSw); go_simp; first | done | with_reducible rfl)
      try simp only [Act.put, List.setIfInBounds_toArray, List.set_cons_zero, List.set_cons_succ]
      refine wpAnyH_take (i := 15) (oi := ⟨some 65, _, _, _, _, _⟩) (v := ?vn2i15) rfl (by kernel_rfl) (by kernel_rfl) (by kernel_rfl) (fun _ _ _ h => h) (Or.inl ⟨by rfl, ?hyn2i15⟩) (by exact HC2.out) ?ren2i15
      case hyn2i15 => (intro ww hSw; (try dsimp only at hSw); go_simp; first | done | with_reducible rfl)
      try simp only [Act.put, List.setIfInBounds_toArray, List.set_cons_zero, List.set_cons_succ]
      refine wpAnyH_take (i := 16) (oi := ⟨some 66, _, _, _, _, _⟩) (v := ?vn2i16) rfl (by kernel_rfl) (by kernel_rfl) (by kernel_rfl) (fun _ _ _ h => h) (Or.inl ⟨by rfl, ?hyn2i16⟩) (by exact HC2.out) ?ren2i16
      case hyn2i16 => (intro ww hSw; (try dsimp only at hSw); go_simp; first | done | with_reducible rfl)
      try simp only [Act.put, List.setIfInBounds_toArray, List.set_cons_zero, List.set_cons_succ]
      refine wpAnyH_take (i := 17) (oi := ⟨some 67, _, _, _, _, _⟩) (v := ?vn2i17) rfl (by kernel_rfl) (by kernel_rfl) (by kernel_rfl) (fun _ _ _ h => h) (Or.inl ⟨by rfl, ?hyn2i17⟩) (by exact HC2.out) ?ren2i17
      case hyn2i17 => (intro ww hSw; (try dsimp only at hSw); go_simp; first | done | with_reducible rfl)
      try simp only [Act.put, List.setIfInBounds_toArray, List.set_cons_zero, List.set_cons_succ]
      refine wpAnyH_take (i := 18) (oi := ⟨some 68, _, _, _, _, _⟩) (v := ?vn2i18) rfl (by kernel_rfl) (by kernel_rfl) (by kernel_rfl) (fun _ _ _ h => h) (Or.inl ⟨by rfl, ?hyn2i18⟩) (by exact HC2.out) ?ren2i18
      case hyn2i18 => (intro ww hSw; (try dsimp only at hSw); go_simp; first | done | with_reducible rfl)
      try simp only [Act.put, List.setIfInBounds_toArray, List.set_cons_zero, List.set_cons_succ]
      refine wpAnyH_ready (rs := [13]) (by kernel_rfl) (by simp) ?_
      refine AllReadyH.cons (o := ⟨some 63, _, _, _, _, _⟩) rfl (fun Kc hKc => ?_) AllReadyH.nil
      go_simp
      refine (duo_len' HD2.out (Below.refl _ _)).mono ?_
      rintro e u3 ⟨rfl, hb3⟩
      have HB3 := Lib.hid hb3
      rw [HLN.out]
      refine hKc.out _ _ (bcell hb3 HC2.out) (fun hc => ?_)
      try simp only [Act.put, List.setIfInBounds_toArray, List.set_cons_zero, List.set_cons_succ]
      refine wpAnyH_take (i := 19) (oi := ⟨some 69, _, _, _, _, _⟩) (v := ?vn3i19) rfl (by kernel_rfl) (by kernel_rfl) (by kernel_rfl) (fun _ _ _ h => h) (Or.inl ⟨by rfl, ?hyn3i19⟩) (by exact hc) ?ren3i19
      case hyn3i19 => (intro ww hSw; (try dsimp only at hSw); go_simp; first | done | with_reducible rfl)
      try simp only [Act.put, List.setIfInBounds_toArray, List.set_cons_zero, List.set_cons_succ]
      refine wpAnyH_take (i := 20) (oi := ⟨some 70, _, _, _, _, _⟩) (v := ?vn3i20) rfl (by kernel_rfl) (by kernel_rfl) (by kernel_rfl) (fun _ _ _ h => h) (Or.inl ⟨by rfl, ?hyn3i20⟩) (by exact hc) ?ren3i20
      case hyn3i20 => (intro ww hSw; (try dsimp only at hSw); go_simp; first | done | with_reducible rfl)
      try simp only [Act.put, List.setIfInBounds_toArray, List.set_cons_zero, List.set_cons_succ]
      refine wpAnyH_take (i := 21) (oi := ⟨some 71, _, _, _, _, _⟩) (v := ?vn3i21) rfl (by kernel_rfl) (by kernel_rfl) (by kernel_rfl) (fun _ _ _ h => h) (Or.inl ⟨by rfl, ?hyn3i21⟩) (by exact hc) ?ren3i21
      case hyn3i21 => (intro ww hSw; (try dsimp only at hSw); go_simp; first | done | with_reducible rfl)
      try simp only [Act.put, List.setIfInBounds_toArray, List.set_cons_zero, List.set_cons_succ]
      refine wpAnyH_take (i := 22) (oi := ⟨some 72, _, _, _, _, _⟩) (v := ?vn3i22) rfl (by kernel_rfl) (by kernel_rfl) (by kernel_rfl) (fun _ _ _ h => h) (Or.inl ⟨by rfl, ?hyn3i22⟩) (by exact hc) ?ren3i22
      case hyn3i22 => (intro ww hSw; (try dsimp only at hSw); go_simp; first | done | with_reducible rfl)
      try simp only [Act.put, List.setIfInBounds_toArray, List.set_cons_zero, List.set_cons_succ]
      refine wpAnyH_take (i := 23) (oi := ⟨some 73, _, _, _, _, _⟩) (v := ?vn3i23) rfl (by kernel_rfl) (by kernel_rfl) (by kernel_rfl) (fun _ _ _ h => h) (Or.inl ⟨by rfl, ?hyn3i23⟩) (by exact hc) ?ren3i23
      case hyn3i23 => (intro ww hSw; (try dsimp only at hSw); go_simp; first | done | with_reducible rfl)
      try simp only [Act.put, List.setIfInBounds_toArray, List.set_cons_zero, List.set_cons_succ]
      refine wpAnyH_take (i := 24) (oi := ⟨some 74, _, _, _, _, _⟩) (v := ?vn3i24) rfl (by kernel_rfl) (by kernel_rfl) (by kernel_rfl) (fun _ _ _ h => h) (Or.inl ⟨by rfl, ?hyn3i24⟩) (by exact hc) ?ren3i24
      case hyn3i24 => (intro ww hSw; (try dsimp only at hSw); go_simp; first | done | with_reducible rfl)
      try simp only [Act.put, List.setIfInBounds_toArray, List.set_cons_zero, List.set_cons_succ]
      refine wpAnyH_take (i := 25) (oi := ⟨some 75, _, _, _, _, _⟩) (v := ?vn3i25) rfl (by kernel_rfl) (by kernel_rfl) (by kernel_rfl) (fun _ _ _ h => h) (Or.inl ⟨by rfl, ?hyn3i25⟩) (by exact hc) ?ren3i25
      case hyn3i25 => (intro ww hSw; (try dsimp only at hSw); go_simp; first | done | with_reducible rfl)
      try simp only [Act.put, List.setIfInBounds_toArray, List.set_cons_zero, List.set_cons_succ]
      refine wpAnyH_take (i := 27) (oi := ⟨some 77, _, _, _, _, _⟩) (v := ?vn3i27) rfl (by kernel_rfl) (by kernel_rfl) (by kernel_rfl) (fun _ _ _ h => h) (Or.inl ⟨by rfl, ?hyn3i27⟩) (by exact hc) ?ren3i27
      case hyn3i27 => (intro ww hSw; (try dsimp only at hSw); go_simp; first | done | with_reducible rfl)
      try simp only [Act.put, List.setIfInBounds_toArray, List.set_cons_zero, List.set_cons_succ]
      refine wpAnyH_take (i := 28) (oi := ⟨some 78, _, _, _, _, _⟩) (v := ?vn3i28) rfl (by kernel_rfl) (by kernel_rfl) (by kernel_rfl) (fun _ _ _ h => h) (Or.inl ⟨by rfl, ?hyn3i28⟩) (by exact hc) ?ren3i28
      case hyn3i28 => (intro ww hSw; (try dsimp only at hSw); go_simp; first | done | with_reducible rfl)
      try simp only [Act.put, List.setIfInBounds_toArray, List.set_cons_zero, List.set_cons_succ]
      refine wpAnyH_take (i := 29) (oi := ⟨some 79, _, _, _, _, _⟩) (v := ?vn3i29) rfl (by kernel_rfl) (by kernel_rfl) (by kernel_rfl) (fun _ _ _ h => h) (Or.inl ⟨by rfl, ?hyn3i29⟩) (by exact hc) ?ren3i29
      case hyn3i29 => (intro ww hSw; (try dsimp only at hSw); go_simp; first | done | with_reducible rfl)
      try simp only [Act.put, List.setIfInBounds_toArray, List.set_cons_zero, List.set_cons_succ]
      refine wpAnyH_take (i := 30) (oi := ⟨some 80, _, _, _, _, _⟩) (v := ?vn3i30) rfl (by kernel_rfl) (by kernel_rfl) (by kernel_rfl) (fun _ _ _ h => h) (Or.inl ⟨by rfl, ?hyn3i30⟩) (by exact hc) ?ren3i30
      case hyn3i30 => (intro ww hSw; (try dsimp only at hSw); go_simp; first | done | with_reducible rfl)
      try simp only [Act.put, List.setIfInBounds_toArray, List.set_cons_zero, List.set_cons_succ]
      refine wpAnyH_ready (rs := [26]) (by kernel_rfl) (by simp) ?_
      refine AllReadyH.cons (o := ⟨some 76, _, _, _, _, _⟩) rfl (fun Kd hKd => ?_) AllReadyH.nil
      go_simp
      refine (duo_size' t' tb_ mtu HD2.out HB3.out).mono ?_
      rintro e u4 ⟨rfl, hb4⟩
      have HB4 := Lib.hid hb4
      rw [HZ1.out]
      refine hKd.out _ _ (bcell hb4 HC2.out) (fun hd => ?_)
      try simp only [Act.put, List.setIfInBounds_toArray, List.set_cons_zero, List.set_cons_succ]
      refine wpAnyH_ready (rs := [31]) (by kernel_rfl) (by simp) ?_
      refine AllReadyH.cons (o := ⟨some 81, _, _, _, _, _⟩) rfl (fun Ke hKe => ?_) AllReadyH.nil
      go_simp
      refine (duo_rsize' t' tb_ mtu HD2.out HB4.out).mono ?_
      rintro e u5 ⟨rfl, hb5⟩
      have HB5 := Lib.hid hb5
      rw [HZ1.out]
      refine hKe.out _ _ (bcell hb5 HC2.out) (fun he => ?_)
      try simp only [Act.put, List.setIfInBounds_toArray, List.set_cons_zero, List.set_cons_succ]
      refine wpAnyH_take (i := 32) (oi := ⟨some 82, _, _, _, _, _⟩) (v := ?vn4i32) rfl (by kernel_rfl) (by kernel_rfl) (by kernel_rfl) (fun _ _ _ h => h) (Or.inl ⟨by rfl, ?hyn4i32⟩) (by exact he) ?ren4i32
      case hyn4i32 => (intro ww hSw; (try dsimp only at hSw); go_simp; first | done | with_reducible rfl)
      try simp only [Act.put, List.setIfInBounds_toArray, List.set_cons_zero, List.set_cons_succ]
      refine wpAnyH_take (i := 33) (oi := ⟨some 83, _, _, _, _, _⟩) (v := ?vn4i33) rfl (by kernel_rfl) (by kernel_rfl) (by kernel_rfl) (fun _ _ _ h => h) (Or.inl ⟨by rfl, ?hyn4i33⟩) (by exact he) ?ren4i33
      case hyn4i33 => (intro ww hSw; (try dsimp only at hSw); go_simp; first | done | with_reducible rfl)
      try simp only [Act.put, List.setIfInBounds_toArray, List.set_cons_zero, List.set_cons_succ]
      refine wpAnyH_take (i := 34) (oi := ⟨some 84, _, _, _, _, _⟩) (v := ?vn4i34) rfl (by kernel_rfl) (by kernel_rfl) (by kernel_rfl) (fun _ _ _ h => h) (Or.inl ⟨by rfl, ?hyn4i34⟩) (by exact he) ?ren4i34
      case hyn4i34 => (intro ww hSw; (try dsimp only at hSw); go_simp; first | done | with_reducible rfl)
      try simp only [Act.put, List.setIfInBounds_toArray, List.set_cons_zero, List.set_cons_succ]
      refine wpAnyH_take (i := 35) (oi := ⟨some 85, _, _, _, _, _⟩) (v := ?vn4i35) rfl (by kernel_rfl) (by kernel_rfl) (by kernel_rfl) (fun _ _ _ h => h) (Or.inl ⟨by rfl, ?hyn4i35⟩) (by exact he) ?ren4i35
      case hyn4i35 => (intro ww hSw; (try dsimp only at hSw); go_simp; first | done | with_reducible rfl)
      try simp only [Act.put, List.setIfInBounds_toArray, List.set_cons_zero, List.set_cons_succ]
      refine wpAnyH_take (i := 36) (oi := ⟨some 86, _, _, _, _, _⟩) (v := ?vn4i36) rfl (by kernel_rfl) (by kernel_rfl) (by kernel_rfl) (fun _ _ _ h => h) (Or.inl ⟨by rfl, ?hyn4i36⟩) (by exact he) ?ren4i36
      case hyn4i36 => (intro ww hSw; (try dsimp only at hSw); go_simp; first | done | with_reducible rfl)
      try simp only [Act.put, List.setIfInBounds_toArray, List.set_cons_zero, List.set_cons_succ]
      refine wpAnyH_take (i := 37) (oi := ⟨some 87, _, _, _, _, _⟩) (v := ?vn4i37) rfl (by kernel_rfl) (by kernel_rfl) (by kernel_rfl) (fun _ _ _ h => h) (Or.inl ⟨by rfl, ?hyn4i37⟩) (by exact he) ?ren4i37
      case hyn4i37 => (intro ww hSw; (try dsimp only at hSw); go_simp; first | done | with_reducible rfl)
      try simp only [Act.put, List.setIfInBounds_toArray, List.set_cons_zero, List.set_cons_succ]
      refine wpAnyH_take (i := 38) (oi := ⟨some 88, _, _, _, _, _⟩) (v := ?vn4i38) rfl (by kernel_rfl) (by kernel_rfl) (by kernel_rfl) (fun _ _ _ h => h) (Or.inl ⟨by rfl, ?hyn4i38⟩) (by exact he) ?ren4i38
      case hyn4i38 => (intro ww hSw; (try dsimp only at hSw); go_simp; first | done | with_reducible rfl)
      try simp only [Act.put, List.setIfInBounds_toArray, List.set_cons_zero, List.set_cons_succ]
      refine wpAnyH_take (i := 40) (oi := ⟨some 90, _, _, _, _, _⟩) (v := ?vn4i40) rfl (by kernel_rfl) (by kernel_rfl) (by kernel_rfl) (fun _ _ _ h => h) (Or.inl ⟨by rfl, ?hyn4i40⟩) (by exact he) ?ren4i40
      case hyn4i40 => (intro ww hSw; (try dsimp only at hSw); go_simp; first | done | with_reducible rfl)
      try simp only [Act.put, List.setIfInBounds_toArray, List.set_cons_zero, List.set_cons_succ]
      refine wpAnyH_take (i := 41) (oi := ⟨some 91, _, _, _, _, _⟩) (v := ?vn4i41) rfl (by kernel_rfl) (by kernel_rfl) (by kernel_rfl) (fun _ _ _ h => h) (Or.inl ⟨by rfl, ?hyn4i41⟩) (by exact he) ?ren4i41
      case hyn4i41 => (intro ww hSw; (try dsimp only at hSw); go_simp; first | done | with_reducible rfl)
      try simp only [Act.put, List.setIfInBounds_toArray, List.set_cons_zero, List.set_cons_succ]
      refine wpAnyH_take (i := 42) (oi := ⟨some 92, _, _, _, _, _⟩) (v := ?vn4i42) rfl (by kernel_rfl) (by kernel_rfl) (by kernel_rfl) (fun _ _ _ h => h) (Or.inl ⟨by rfl, ?hyn4i42⟩) (by exact he) ?ren4i42
      case hyn4i42 => (intro ww hSw; (try dsimp only at hSw); go_simp; first | done | with_reducible rfl)
      try simp only [Act.put, List.setIfInBounds_toArray, List.set_cons_zero, List.set_cons_succ]
      refine wpAnyH_take (i := 43) (oi := ⟨some 93, _, _, _, _, _⟩) (v := ?vn4i43) rfl (by kernel_rfl) (by kernel_rfl) (by kernel_rfl) (fun _ _ _ h => h) (Or.inl ⟨by rfl, ?hyn4i43⟩) (by exact he) ?ren4i43
      case hyn4i43 => (intro ww hSw; (try dsimp only at hSw); go_simp; first | done | with_reducible rfl)
      try simp only [Act.put, List.setIfInBounds_toArray, List.set_cons_zero, List.set_cons_succ]
      refine wpAnyH_ready (rs := [39]) (by kernel_rfl) (by simp) ?_
      refine AllReadyH.cons (o := ⟨some 89, _, _, _, _, _⟩) rfl (fun Kf hKf => ?_) AllReadyH.nil
      go_simp
      refine (duo_size' t' tt mtu HD2.out HB5.out).mono ?_
      rintro e u6 ⟨rfl, hb6⟩
      have HB6 := Lib.hid hb6
      rw [HZ2.out]
      refine hKf.out _ _ (bcell hb6 HC2.out) (fun hf => ?_)
      try simp only [Act.put, List.setIfInBounds_toArray, List.set_cons_zero, List.set_cons_succ]
      refine wpAnyH_ready (rs := [44]) (by kernel_rfl) (by simp) ?_
      refine AllReadyH.cons (o := ⟨some 94, _, _, _, _, _⟩) rfl (fun Kg hKg => ?_) AllReadyH.nil
      go_simp
      refine (duo_rsize' t' tt mtu HD2.out HB6.out).mono ?_
      rintro e u7 ⟨rfl, hb7⟩
      have HB7 := Lib.hid hb7
      rw [HZ2.out]
      refine hKg.out _ _ (bcell hb7 HC2.out) (fun hg => ?_)
      try simp only [Act.put, List.setIfInBounds_toArray, List.set_cons_zero, List.set_cons_succ]
      refine wpAnyH_take (i := 45) (oi := ⟨some 95, _, _, _, _, _⟩) (v := ?vn5i45) rfl (by kernel_rfl) (by kernel_rfl) (by kernel_rfl) (fun _ _ _ h => h) (Or.inl ⟨by rfl, ?hyn5i45⟩) (by exact hg) ?ren5i45
      case hyn5i45 => (intro ww hSw; (try dsimp only at hSw); go_simp; first | done | with_reducible rfl)
      try simp only [Act.put, List.setIfInBounds_toArray, List.set_cons_zero, List.set_cons_succ]
      refine wpAnyH_take (i := 46) (oi := ⟨some 96, _, _, _, _, _⟩) (v := ?vn5i46) rfl (by kernel_rfl) (by kernel_rfl) (by kernel_rfl) (fun _ _ _ h => h) (Or.inl ⟨by rfl, ?hyn5i46⟩) (by exact hg) ?ren5i46
      case hyn5i46 => (intro ww hSw; (try dsimp only at hSw); go_simp; first | done | with_reducible rfl)
      try simp only [Act.put, List.setIfInBounds_toArray, List.set_cons_zero, List.set_cons_succ]
      refine wpAnyH_take (i := 47) (oi := ⟨some 97, _, _, _, _, _⟩) (v := ?vn5i47) rfl (by kernel_rfl) (by kernel_rfl) (by kernel_rfl) (fun _ _ _ h => h) (Or.inl ⟨by rfl, ?hyn5i47⟩) (by exact hg) ?ren5i47
      case hyn5i47 => (intro ww hSw; (try dsimp only at hSw); go_simp; first | done | with_reducible rfl)
      try simp only [Act.put, List.setIfInBounds_toArray, List.set_cons_zero, List.set_cons_succ]
      refine wpAnyH_take (i := 48) (oi := ⟨some 98, _, _, _, _, _⟩) (v := ?vn5i48) rfl (by kernel_rfl) (by kernel_rfl) (by kernel_rfl) (fun _ _ _ h => h) (Or.inl ⟨by rfl, ?hyn5i48⟩) (by exact hg) ?ren5i48
      case hyn5i48 => (intro ww hSw; (try dsimp only at hSw); go_simp; first | done | with_reducible rfl)
      try simp only [Act.put, List.setIfInBounds_toArray, List.set_cons_zero, List.set_cons_succ]
      refine wpAnyH_take (i := 49) (oi := ⟨some 99, _, _, _, _, _⟩) (v := ?vn5i49) rfl (by kernel_rfl) (by kernel_rfl) (by kernel_rfl) (fun _ _ _ h => h) (Or.inl ⟨by rfl, ?hyn5i49⟩) (by exact hg) ?ren5i49
      case hyn5i49 => (intro ww hSw; (try dsimp only at hSw); go_simp; first | done | with_reducible rfl)
      try simp only [Act.put, List.setIfInBounds_toArray, List.set_cons_zero, List.set_cons_succ]
      refine wpAnyH_take (i := 50) (oi := ⟨some 100, _, _, _, _, _⟩) (v := ?vn5i50) rfl (by kernel_rfl) (by kernel_rfl) (by kernel_rfl) (fun _ _ _ h => h) (Or.inl ⟨by rfl, ?hyn5i50⟩) (by exact hg) ?ren5i50
      case hyn5i50 => (intro ww hSw; (try dsimp only at hSw); go_simp; first | done | with_reducible rfl)
      try simp only [Act.put, List.setIfInBounds_toArray, List.set_cons_zero, List.set_cons_succ]
      refine wpAnyH_take (i := 51) (oi := ⟨some 101, _, _, _, _, _⟩) (v := ?vn5i51) rfl (by kernel_rfl) (by kernel_rfl) (by kernel_rfl) (fun _ _ _ h => h) (Or.inl ⟨by rfl, ?hyn5i51⟩) (by exact hg) ?ren5i51
      case hyn5i51 => (intro ww hSw; (try dsimp only at hSw); go_simp; first | done | with_reducible rfl)
      try simp only [Act.put, List.setIfInBounds_toArray, List.set_cons_zero, List.set_cons_succ]
      refine wpAnyH_take (i := 53) (oi := ⟨some 103, _, _, _, _, _⟩) (v := ?vn5i53) rfl (by kernel_rfl) (by kernel_rfl) (by kernel_rfl) (fun _ _ _ h => h) (Or.inl ⟨by rfl, ?hyn5i53⟩) (by exact hg) ?ren5i53
      case hyn5i53 => (intro ww hSw; (try dsimp only at hSw); go_simp; first | done | with_reducible rfl)
      try simp only [Act.put, List.setIfInBounds_toArray, List.set_cons_zero, List.set_cons_succ]
      refine wpAnyH_take (i := 54) (oi := ⟨some 104, _, _, _, _, _⟩) (v := ?vn5i54) rfl (by kernel_rfl) (by kernel_rfl) (by kernel_rfl) (fun _ _ _ h => h) (Or.inl ⟨by rfl, ?hyn5i54⟩) (by exact hg) ?ren5i54
      case hyn5i54 => (intro ww hSw; (try dsimp only at hSw); go_simp; first | done | with_reducible rfl)
      try simp only [Act.put, List.setIfInBounds_toArray, List.set_cons_zero, List.set_cons_succ]
      refine wpAnyH_take (i := 55) (oi := ⟨some 105, _, _, _, _, _⟩) (v := ?vn5i55) rfl (by kernel_rfl) (by kernel_rfl) (by kernel_rfl) (fun _ _ _ h => h) (Or.inl ⟨by rfl, ?hyn5i55⟩) (by exact hg) ?ren5i55
      case hyn5i55 => (intro ww hSw; (try dsimp only at hSw); go_simp; first | done | with_reducible rfl)
      try simp only [Act.put, List.setIfInBounds_toArray, List.set_cons_zero, List.set_cons_succ]
      refine wpAnyH_take (i := 56) (oi := ⟨some 106, _, _, _, _, _⟩) (v := ?vn5i56) rfl (by kernel_rfl) (by kernel_rfl) (by kernel_rfl) (fun _ _ _ h => h) (Or.inl ⟨by rfl, ?hyn5i56⟩) (by exact hg) ?ren5i56
      case hyn5i56 => (intro ww hSw; (try dsimp only at hSw); go_simp; first | done | with_reducible rfl)
      try simp only [Act.put, List.setIfInBounds_toArray, List.set_cons_zero, List.set_cons_succ]
      refine wpAnyH_ready (rs := [52]) (by kernel_rfl) (by simp) ?_
      refine AllReadyH.cons (o := ⟨some 102, _, _, _, _, _⟩) rfl (fun Kh hKh => ?_) AllReadyH.nil
      go_simp
      refine (duo_size' mtu tt t' HD2.out HB7.out).mono ?_
      rintro e u8 ⟨rfl, hb8⟩
      have HB8 := Lib.hid hb8
      rw [HZ3.out]
      refine hKh.out _ _ (bcell hb8 HC2.out) (fun hh => ?_)
      try simp only [Act.put, List.setIfInBounds_toArray, List.set_cons_zero, List.set_cons_succ]
      refine wpAnyH_ready (rs := [57]) (by kernel_rfl) (by simp) ?_
      refine AllReadyH.cons (o := ⟨some 107, _, _, _, _, _⟩) rfl (fun Ki hKi => ?_) AllReadyH.nil
      go_simp
      refine (duo_rsize' mtu tt t' HD2.out HB8.out).mono ?_
      rintro e u9 ⟨rfl, hb9⟩
      have HB9 := Lib.hid hb9
      rw [HZ3.out]
      refine hKi.out _ _ (bcell hb9 HC2.out) (fun hi => ?_)
      try simp only [Act.put, List.setIfInBounds_toArray, List.set_cons_zero, List.set_cons_succ]
      refine wpAnyH_take (i := 58) (oi := ⟨some 108, _, _, _, _, _⟩) (v := ?vn6i58) rfl (by kernel_rfl) (by kernel_rfl) (by kernel_rfl) (fun _ _ _ h => h) (Or.inl ⟨by rfl, ?hyn6i58⟩) (by exact hi) ?ren6i58
      case hyn6i58 => (intro ww hSw; (try dsimp only at hSw); go_simp; first | done | with_reducible rfl)
      try simp only [Act.put, List.setIfInBounds_toArray, List.set_cons_zero, List.set_cons_succ]
      refine wpAnyH_take (i := 59) (oi := ⟨some 109, _, _, _, _, _⟩) (v := ?vn6i59) rfl (by kernel_rfl) (by kernel_rfl) (by kernel_rfl) (fun _ _ _ h => h) (Or.inl ⟨by rfl, ?hyn6i59⟩) (by exact hi) ?ren6i59
      case hyn6i59 => (intro ww hSw; (try dsimp only at hSw); go_simp; first | done | with_reducible rfl)
      try simp only [Act.put, List.setIfInBounds_toArray, List.set_cons_zero, List.set_cons_succ]
      refine wpAnyH_done (by kernel_rfl) ?_ _
      have hD9 := HD2.out.later HB9.out
      go_wp2_with fail
      all_goals first | (exfalso; omega) | skip
      go_roundw
      case rel => exact ⟨k + 1, t', tb2, by omega, by omega, by go_num, rfl, by omega, by omega, hD9⟩
      case measure => simp [Go.RowKit.intOf]; omega
    · have hpair : (decide ((k : Int) < (n : Int)) = false ∧ ¬ k < n) ∨ (k < n ∧ decide ((k : Int) < (n : Int)) = true ∧ decide ((k : Int) < 60) = false ∧ ¬ k < 60) := by
        by_cases q : k < n
        · exact .inr ⟨q, decide_eq_true (by omega), decide_eq_false (by omega), by omega⟩
        · exact .inl ⟨decide_eq_false (by omega), q⟩
      clear hend
      rcases hpair with ⟨d1, q1⟩ | ⟨q1, d1, d2, q2⟩
      all_goals
        go_wp2_with fail
        all_goals first | (exfalso; omega) | skip
        go_ret
        exact ⟨rfl, HB.out⟩
end Go.Proofs.YtmcfllogcmnnoaaDoor.Ic
