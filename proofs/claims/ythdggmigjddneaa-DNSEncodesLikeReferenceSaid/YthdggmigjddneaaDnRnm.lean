/-
  The contracts of the reference's put and name.
-/
import Derived.Test.YthdggmigjddneaaDnRvn
import Derived.Test.YthdggmigjddneaaRef01
import Derived.Test.YthdggmigjddneaaHeld
import Derived.Deep.RegionHeld3
namespace Go.Proofs.Ythdggmigjddneaa.Dn
set_option maxRecDepth 100000
open Go.RowKit Go.Proofs.Ythdggmigjddneaa.Wire Go.Proofs.Ythdggmigjddneaa.Rw

theorem dput_ok (n : Int) (b : Nat) (w : World) (h1 : 1 ≤ b) (h4 : b ≤ 4) (h0 : 0 ≤ n) (hn : n < 256 ^ b) :
    Calls Try.prog 32 #[.int .i64 n, .int .i64 (b : Int)] w fun e w' => e = .returned (.string ⟨(be b n).toArray⟩) ∧ Below w.heap.size w w' := by
  have HP := Lib.hid fun W => rput_ok n b W h1 h4 h0 hn
  generalize be b n = B at *
  clear hn
  go_enter Try.func32, Try.ntmps32
  go_wp2_with fail
  refine (HP.out _).mono ?_
  rintro e w1 ⟨rfl, hb⟩
  go_wp2_with fail
  go_ret
  exact ⟨rfl, hb⟩
theorem bapp (a b : List UInt8) : (⟨a.toArray⟩ : ByteArray) ++ ⟨b.toArray⟩ = ⟨(a ++ b).toArray⟩ := ByteArray.ext (by simp)
set_option maxHeartbeats 4000000 in
theorem rname_any (s : List UInt8) (w : World) (hn : nameB s = true) :
    Calls Try.prog 33 #[.string ⟨s.toArray⟩] w fun e w' => e = .returned (.string ⟨(encName s).toArray⟩) ∧ Below w.heap.size w w' := by
  have h60 := name_len hn
  have hal : ∀ a ∈ labelsOf s, a.length ≤ 20 := fun a h => by
    unfold nameB at hn
    rw [Bool.and_eq_true, List.all_eq_true] at hn
    exact (labB_len (hn.2 a h)).2
  have hnn := labelsOf_len s
  have HLn : Hid ((labelsOf s).length ≤ 61) := Lib.hid (by omega)
  have HAl := Lib.hid hal
  have HL : Hid (∀ W, Calls Try.prog 26 #[.string ⟨s.toArray⟩] W fun e w' => (∃ A c, e = .returned (.slice A (labelsOf s).length c) ∧ LRow w' W.heap.size A c (labelsOf s)) ∧ Below W.heap.size W w') := Lib.hid fun W => rlabels_any ⟨s.toArray⟩ W (by show s.length ≤ _; omega)
  have HEn : Hid (encName s = encLabs (labelsOf s) ++ be 1 0) := Lib.hid rfl
  have HZ := Lib.hid fun W => dput_ok 0 1 W (by omega) (by omega) (by omega) (by decide)
  rw [show ((1 : Nat) : Int) = 1 from rfl] at HZ
  generalize encName s = EN at *
  clear hal hnn hn
  generalize labelsOf s = L at *
  go_enter Try.func33, Try.ntmps33
  go_wp2_with fail
  refine (HL.out _).mono ?_
  rintro e w1 ⟨⟨A, c, rfl, hrow⟩, hb⟩
  have HRow := Lib.hid hrow; clear hrow
  go_wp2_with fail
  go_loopw [3, 5] (fun v u wr => ∃ (k : Nat) (E : List UInt8), k ≤ L.length ∧ u = .int .i64 (k : Int) ∧ v = .string ⟨E.toArray⟩ ∧ E = encLabs (L.take k) ∧ E.length ≤ 21 * k ∧ Below w1.heap.size w1 wr) (fun v u wr => L.length - (intOf u).toNat)
  case atStart => exact ⟨0, [], by omega, rfl, rfl, rfl, by simp, Below.refl _ _⟩
  case round =>
    obtain ⟨k, E, hk, rfl, rfl, hE, hEl, hr⟩ := hrel
    have HE := Lib.hid hE; clear hE
    have hL61 := HLn.out
    by_cases hlt : k < L.length
    · have hkl : decide ((k : Int) < (L.length : Int)) = true := by simp; omega
      have hk1 : (k : Int) < (L.length : Int) := by omega
      have hk0 : (0 : Int) ≤ (k : Int) := by omega
      obtain ⟨g, rfl, hlo, hgl, c0⟩ := (HRow.out.below hr).at hlt
      have ha20 := HAl.out L[k] (List.getElem_mem hlt)
      have HP := Lib.hid fun W => dput_ok (L[k].length : Int) 1 W (by omega) (by omega) (by omega) (by show (L[k].length : Int) < 256; omega)
      rw [show ((1 : Nat) : Int) = 1 from rfl] at HP
      have HE1 : Hid (E ++ be 1 (L[k].length : Int) ++ L[k] = encLabs (L.take (k + 1))) := Lib.hid (by
        rw [HE.out, List.take_add_one, List.getElem?_eq_getElem hlt]
        unfold encLabs
        rw [List.flatMap_append]; simp)
      clear HE
      have lb1 := be_length 1 (L[k].length : Int)
      generalize L[k] = a at *
      generalize be 1 (a.length : Int) = B at *
      have z1 : ¬ 9223372036854775807 < E.length + B.length := by omega
      have z2 : ¬ 9223372036854775807 < E.length + B.length + a.length := by omega
      have z3 : ¬ 9223372036854775807 < E.length + 1 := by omega
      have z4 : ¬ 9223372036854775807 < E.length + 1 + a.length := by omega
      go_upto_region 6 with fail
      refine wp_region_held_drew (S := fun w' => w'.cell? ⟨g, k, none⟩ = some (.string ⟨a.toArray⟩)) (by kernel_rfl) (c0) ?_
      intro hS
      have hrd := hr.drew; have cd : wr.drew.cell? ⟨g, k, none⟩ = _ := c0
      generalize wr.drew = wd at *
      clear c0
      refine wpAnyH_take (i := 0) (oi := ⟨some 14, _, _, _, _, _⟩) (v := ?vt1x0) rfl (by kernel_rfl) (by kernel_rfl) (by kernel_rfl) (fun _ _ _ h => h) (Or.inl ⟨by rfl, ?hyt1x0⟩) (by exact hS) ?ret1x0
      case hyt1x0 => (intro ww hSw; (try dsimp only at hSw); go_simp; first | done | with_reducible rfl)
      try simp only [Act.put, List.setIfInBounds_toArray, List.set_cons_zero, List.set_cons_succ]
      refine wpAnyH_take (i := 1) (oi := ⟨some 15, _, _, _, _, _⟩) (v := ?vt1x1) rfl (by kernel_rfl) (by kernel_rfl) (by kernel_rfl) (fun _ _ _ h => h) (Or.inl ⟨by rfl, ?hyt1x1⟩) (by exact hS) ?ret1x1
      case hyt1x1 => (intro ww hSw; (try dsimp only at hSw); go_simp; first | done | with_reducible rfl)
      try simp only [Act.put, List.setIfInBounds_toArray, List.set_cons_zero, List.set_cons_succ]
      refine wpAnyH_take (i := 2) (oi := ⟨some 16, _, _, _, _, _⟩) (v := ?vt1x2) rfl (by kernel_rfl) (by kernel_rfl) (by kernel_rfl) (fun _ _ _ h => h) (Or.inl ⟨by rfl, ?hyt1x2⟩) (by exact hS) ?ret1x2
      case hyt1x2 => (intro ww hSw; (try dsimp only at hSw); go_simp; first | done | with_reducible rfl)
      try simp only [Act.put, List.setIfInBounds_toArray, List.set_cons_zero, List.set_cons_succ]
      refine wpAnyH_take (i := 3) (oi := ⟨some 17, _, _, _, _, _⟩) (v := ?vt1x3) rfl (by kernel_rfl) (by kernel_rfl) (by kernel_rfl) (fun _ _ _ h => h) (Or.inl ⟨by rfl, ?hyt1x3⟩) (by exact hS) ?ret1x3
      case hyt1x3 => (intro ww hSw; (try dsimp only at hSw); go_simp; first | done | with_reducible rfl)
      try simp only [Act.put, List.setIfInBounds_toArray, List.set_cons_zero, List.set_cons_succ]
      refine wpAnyH_take (i := 4) (oi := ⟨some 18, _, _, _, _, _⟩) (v := ?vt1x4) rfl (by kernel_rfl) (by kernel_rfl) (by kernel_rfl) (fun _ _ _ h => h) (Or.inl ⟨by rfl, ?hyt1x4⟩) (by exact hS) ?ret1x4
      case hyt1x4 => (intro ww hSw; (try dsimp only at hSw); go_simp; first | done | with_reducible rfl)
      try simp only [Act.put, List.setIfInBounds_toArray, List.set_cons_zero, List.set_cons_succ]
      refine wpAnyH_take (i := 5) (oi := ⟨some 19, _, _, _, _, _⟩) (v := ?vt1x5) rfl (by kernel_rfl) (by kernel_rfl) (by kernel_rfl) (fun _ _ _ h => h) (Or.inl ⟨by rfl, ?hyt1x5⟩) (by exact hS) ?ret1x5
      case hyt1x5 => (intro ww hSw; (try dsimp only at hSw); go_simp; first | done | with_reducible rfl)
      try simp only [Act.put, List.setIfInBounds_toArray, List.set_cons_zero, List.set_cons_succ]
      refine wpAnyH_take (i := 8) (oi := ⟨some 22, _, _, _, _, _⟩) (v := ?vt1x8) rfl (by kernel_rfl) (by kernel_rfl) (by kernel_rfl) (fun _ _ _ h => h) (Or.inl ⟨by rfl, ?hyt1x8⟩) (by exact hS) ?ret1x8
      case hyt1x8 => (intro ww hSw; (try dsimp only at hSw); go_simp; first | done | with_reducible rfl)
      try simp only [Act.put, List.setIfInBounds_toArray, List.set_cons_zero, List.set_cons_succ]
      refine wpAnyH_take (i := 9) (oi := ⟨some 23, _, _, _, _, _⟩) (v := ?vt1x9) rfl (by kernel_rfl) (by kernel_rfl) (by kernel_rfl) (fun _ _ _ h => h) (Or.inl ⟨by rfl, ?hyt1x9⟩) (by exact hS) ?ret1x9
      case hyt1x9 => (intro ww hSw; (try dsimp only at hSw); go_simp; first | done | with_reducible rfl)
      try simp only [Act.put, List.setIfInBounds_toArray, List.set_cons_zero, List.set_cons_succ]
      refine wpAnyH_take (i := 10) (oi := ⟨some 24, _, _, _, _, _⟩) (v := ?vt1x10) rfl (by kernel_rfl) (by kernel_rfl) (by kernel_rfl) (fun _ _ _ h => h) (Or.inl ⟨by rfl, ?hyt1x10⟩) (by exact hS) ?ret1x10
      case hyt1x10 => (intro ww hSw; (try dsimp only at hSw); go_simp; first | done | with_reducible rfl)
      try simp only [Act.put, List.setIfInBounds_toArray, List.set_cons_zero, List.set_cons_succ]
      refine wpAnyH_take (i := 11) (oi := ⟨some 25, _, _, _, _, _⟩) (v := ?vt1x11) rfl (by kernel_rfl) (by kernel_rfl) (by kernel_rfl) (fun _ _ _ h => h) (Or.inl ⟨by rfl, ?hyt1x11⟩) (by exact hS) ?ret1x11
      case hyt1x11 => (intro ww hSw; (try dsimp only at hSw); go_simp; first | done | with_reducible rfl)
      try simp only [Act.put, List.setIfInBounds_toArray, List.set_cons_zero, List.set_cons_succ]
      refine wpAnyH_ready (rs := [6]) (by kernel_rfl) (by simp) ?_
      refine AllReadyH.cons (o := ⟨some 20, _, _, _, _, _⟩) rfl (fun K2 hK2 => ?_) AllReadyH.nil
      go_simp
      refine (HP.out _).mono ?_
      rintro e w7 ⟨rfl, hb7⟩
      dsimp only
      have c7 := bcell hb7 cd
      have hr7 := below_call hrd hb7
      refine hK2.out _ _ (c7) (fun h2 => ?_)
      try simp only [Act.put, List.setIfInBounds_toArray, List.set_cons_zero, List.set_cons_succ]
      refine wpAnyH_take (i := 7) (oi := ⟨some 21, _, _, _, _, _⟩) (v := ?vt3x7) rfl (by kernel_rfl) (by kernel_rfl) (by kernel_rfl) (fun _ _ _ h => h) (Or.inl ⟨by rfl, ?hyt3x7⟩) (by exact c7) ?ret3x7
      case hyt3x7 => (intro ww hSw; (try dsimp only at hSw); go_simp; first | done | with_reducible rfl)
      try simp only [Act.put, List.setIfInBounds_toArray, List.set_cons_zero, List.set_cons_succ]
      refine wpAnyH_take (i := 12) (oi := ⟨some 26, _, _, _, _, _⟩) (v := ?vt3x12) rfl (by kernel_rfl) (by kernel_rfl) (by kernel_rfl) (fun _ _ _ h => h) (Or.inl ⟨by rfl, ?hyt3x12⟩) (by exact c7) ?ret3x12
      case hyt3x12 => (intro ww hSw; (try dsimp only at hSw); go_simp; first | done | with_reducible rfl)
      try simp only [Act.put, List.setIfInBounds_toArray, List.set_cons_zero, List.set_cons_succ]
      refine wpAnyH_take (i := 13) (oi := ⟨some 3, _, _, _, _, _⟩) (v := ?vt3x13) rfl (by kernel_rfl) (by kernel_rfl) (by kernel_rfl) (fun _ _ _ h => h) (Or.inl ⟨by rfl, ?hyt3x13⟩) (by exact c7) ?ret3x13
      case hyt3x13 => (intro ww hSw; (try dsimp only at hSw); go_simp; first | done | with_reducible rfl)
      try simp only [Act.put, List.setIfInBounds_toArray, List.set_cons_zero, List.set_cons_succ]
      refine wpAnyH_done (by kernel_rfl) ?_ _
      go_wp2_with fail
      rw [bapp, bapp]
      exact ⟨⟨k + 1, _, by omega, by go_num, rfl, HE1.out, (by rw [List.length_append, List.length_append, lb1]; omega), hr7⟩, by simp [Go.RowKit.intOf]; omega⟩
    · have hkl : decide ((k : Int) < (L.length : Int)) = false := by simp; omega
      obtain rfl : k = L.length := by omega
      have HEf : Hid (EN = E ++ be 1 0) := Lib.hid (by rw [HEn.out, HE.out, List.take_length])
      have lb1 := be_length 1 0
      clear HE HEn
      generalize be 1 0 = B at *
      have z1 : ¬ 9223372036854775807 < E.length + B.length := by omega
      have z3 : ¬ 9223372036854775807 < E.length + 1 := by omega
      go_wp2_with fail
      refine (HZ.out _).mono ?_
      rintro e w8 ⟨rfl, hb8⟩
      go_wp2_with fail
      rw [bapp, ← HEf.out]
      go_ret
      exact ⟨rfl, below_call (below_call hb hr) hb8⟩
end Go.Proofs.Ythdggmigjddneaa.Dn
