/-
  The contract of the helper carried: a payload is carried in fragments, each in a frame, in a rotation of their order; the first frame may be corrupted.
-/
import Derived.Test.YtmgjcjacoegocaaDoorRotM
import Derived.Test.YtmgjcjacoegocaaDoorLkM
import Derived.Test.YtmgjcjacoegocaaDoorHeld
import Derived.IntWalk
import Derived.Deep.RegionHeld3
import Derived.Deep.QuietTactic
import Derived.BigQuiet
import Derived.Deep.DeepCutAuto
import Derived.Deep.CutRange
import Derived.Outline
namespace Go.Proofs.YtmgjcjacoegocaaDoor.Re
set_option maxRecDepth 100000
open Go.RowKit Go.Proofs.YtmgjcjacoegocaaDoor.Wire
open Go.Proofs.YtmgjcjacoegocaaDoor.Ip (Pk pieceAt count frags count_lt frags_length fragN fragN_bd fragList VLen vlenB PkRow)

theorem bszC (l : List UInt8) : (⟨l.toArray⟩ : ByteArray).size = l.length := rfl
theorem extC (l : List UInt8) (a b : Nat) : (⟨l.toArray⟩ : ByteArray).extract a b = ⟨((l.take b).drop a).toArray⟩ := by
  apply ByteArray.ext
  apply Array.ext'
  rw [ByteArray.data_extract]
  simp [List.drop_take]
theorem flipC (R : List UInt8) (k : Nat) (hk : k < R.length) (v : UInt8) : ((⟨R.toArray⟩ : ByteArray).extract 0 k ++ ⟨#[v]⟩ ++ (⟨R.toArray⟩ : ByteArray).extract (k + 1) R.length) = ⟨(R.set k v).toArray⟩ := by
  rw [extC, extC]
  have e3 : (⟨#[v]⟩ : ByteArray) = ⟨[v].toArray⟩ := rfl
  rw [e3]
  apply ByteArray.ext
  rw [ByteArray.data_append, ByteArray.data_append, List.set_eq_take_append_cons_drop, if_pos hk]
  simp
theorem convC (W : World) (b : Nat) (m : Int) (h : W.cell? ⟨b, 0, none⟩ = some (.int .u8 m)) : (convert 88 9 (.slice (some ⟨b, 0, none⟩) 1 1)).run Tryd.prog W = .ok (.string ⟨#[UInt8.ofNat m.toNat]⟩) W := by
  rw [run_convert_bytes_arg W 88 5 Tryd.underlying88 Tryd.underlying5 b 0 1 1 [m] rfl ?_ 9 Tryd.underlying9]
  · rfl
  · intro i hi
    obtain rfl : i = 0 := by omega
    exact h
/-- the state of carried when i frames have been sent -/
def CSt (w : World) (B0 T g : Nat) (p : Pk) (n : Int) (t lost i : Nat) (W : World) : Prop := ∃ A, JR w B0 T g (fragList p n) A W ∧ RS1 p n t lost i A ∧ ¬ (lost = 0 ∧ i = (fragList p n).length) ∧ B0 ≤ W.heap.size
set_option maxHeartbeats 40000000 in
theorem carried_walk (V : Value) (S : ByteArray) (a b n : Int) (t x_ m_ : Nat) (w : World) (a0 : Addr) (hg : Lk.Gl w a0) (ha : 1 ≤ a ∧ a ≤ 4294967294) (hb : 1 ≤ b ∧ b ≤ 4294967294) (hn : 68 ≤ n ∧ n ≤ 1024) (ht : t ≤ 79) (hx : x_ ≤ 65535) (hm : m_ ≤ 255) (hS : S.size ≤ 3000) (HV0 : Hid (m_ = 0 → V = .tuple #[.string S, .bool true])) (HV1 : Hid (¬ m_ = 0 → V = .tuple #[.string ⟨#[]⟩, .bool false])) :
    Calls Tryd.prog 10 #[.string S, .int .i64 a, .int .i64 b, .int .i64 n, .int .i64 (t : Int), .int .i64 (x_ : Int), .int .u8 (m_ : Int)] w fun e w' => e = .returned V ∧ Below w.heap.size w w' := by
  have hc : Cutable ⟨a, b, 6, 9, 5, false, false, 0, S⟩ n := by
    refine ⟨?_, rfl, rfl, rfl, hn.1⟩
    unfold Ip.Pk.ok
    show VLen a b 6 9 5 false false 0 S.size
    unfold VLen; simp; omega
  have HC := Lib.hid hc
  have HF := Lib.hid fun W => fragL hc W
  have hsp := Ip.frag_spec _ hc.ok hc.df n hc.n68
  have hMp := hsp.pos
  have hMl := hsp.le
  have HAt := Lib.hid hsp.at_
  obtain ⟨lost, hlost⟩ : ∃ lost : Nat, lost = if m_ = 0 then 0 else 1 := ⟨_, rfl⟩
  have HLost := Lib.hid hlost; clear hlost
  have HG := Lib.hid hg
  have HCS : Hid (∀ B0 T g i W, CSt w B0 T g ⟨a, b, 6, 9, 5, false, false, 0, S⟩ n t lost i W ↔ ∃ A, JR w B0 T g (fragList ⟨a, b, 6, 9, 5, false, false, 0, S⟩ n) A W ∧ RS1 ⟨a, b, 6, 9, 5, false, false, 0, S⟩ n t lost i A ∧ ¬ (lost = 0 ∧ i = (fragList ⟨a, b, 6, 9, 5, false, false, 0, S⟩ n).length) ∧ B0 ≤ W.heap.size) := Lib.hid fun _ _ _ _ _ => Iff.rfl
  generalize hLL : fragList ⟨a, b, 6, 9, 5, false, false, 0, S⟩ n = l at *
  have HLL := Lib.hid hLL; clear hLL hsp hc hg
  obtain ⟨M, hM⟩ : ∃ M, l.length = M := ⟨_, rfl⟩
  rw [hM] at hMp hMl HF
  have HM := Lib.hid hM; clear hM
  dsimp only [Ip.Pk.val] at HF
  have HB := Below.refl w.heap.size w
  go_enter Tryd.func10, Tryd.ntmps10
  go_wp2_with fail
  refine (HF.out _).mono ?_
  rintro e w1 ⟨⟨g, cap, rfl, hgg, hrow⟩, hb⟩
  have HB' := below_call HB hb; clear HB hb; have HB := HB'; clear HB'; have hz1 := HB.size
  go_wp2_with fail
  refine (new_tt _).mono ?_
  rintro e w2 hN
  have hgl0 := Ip.PkRow.lt hrow
  obtain ⟨T, rfl, hone, hb2⟩ := OneT.ofNew HB hN
  have hJ0 : Hid (CSt w w1.heap.size T g ⟨a, b, 6, 9, 5, false, false, 0, S⟩ n t lost 0 w2) := Lib.hid ((HCS.out _ _ _ _ _).2 ⟨[], ⟨hone, hrow.below hb2, hgl0⟩, by have := RS1.start HC.out t lost; exact this, by rw [HM.out]; omega, hb2.size⟩)
  clear hN hone hrow hgg HB HF
  generalize w1.heap.size = B0 at *
  clear hb2 hgl0
  go_wp2_with fail
  go_loopw [19] (fun u wr => ∃ i : Nat, i ≤ M ∧ u = .int .i64 (i : Int) ∧ CSt w B0 T g ⟨a, b, 6, 9, 5, false, false, 0, S⟩ n t lost i wr) (fun u _ => M - (intOf u).toNat)
  case atStart => exact ⟨0, by omega, rfl, hJ0.out⟩
  case round =>
    clear hJ0
    obtain ⟨i, hi, rfl, hC⟩ := hrel
    obtain ⟨wo, rfl⟩ : ∃ wo : World, wo = wr := ⟨_, rfl⟩
    obtain ⟨A, hJ, hR, hne, hB0⟩ := (HCS.out _ _ _ _ _).1 hC
    have HJ := Lib.hid hJ; have HR := Lib.hid hR; have HNe := Lib.hid hne; clear hJ hR hne hC
    by_cases hlt : i < M
    · have hil : decide ((i : Int) < (M : Int)) = true := by simp; omega
      have hwr : IntKind.i64.wrap ((i : Int) + (t : Int)) = (i : Int) + (t : Int) := IntWalk.i64_in _ (by omega)
      obtain ⟨k, hk⟩ : ∃ k, (i + t) % M = k := ⟨_, rfl⟩
      have hkM : k < M := by rw [← hk]; exact Nat.mod_lt _ hMp
      have hkm : ((i : Int) + (t : Int)).tmod (M : Int) = (k : Int) := by rw [Int.tmod_eq_emod_of_nonneg (by omega), ← hk, Int.natCast_emod, Int.natCast_add]
      have hkn : ((i : Int) + (t : Int)) % (M : Int) = (k : Int) := by rw [← hk, Int.natCast_emod, Int.natCast_add]
      have hM0 : ¬ ((M : Int) = 0) := by omega
      have hk0 : (0 : Int) ≤ (k : Int) := by omega
      have hk1 : (k : Int) < (M : Int) := by omega
      have hkl : k < l.length := by rw [HM.out]; exact hkM
      obtain ⟨P, hP⟩ : ∃ P, l[k]? = some P := ⟨l[k], List.getElem?_eq_getElem hkl⟩
      obtain ⟨hPok, hPn, -⟩ := HAt.out k P hP
      obtain ⟨R, hRl, hPs, -, HE, HDk⟩ := Ip.pkRt P.f P.t P.pr P.ttl P.id P.df P.mf P.off P.s hPok
      obtain ⟨r0, r1, r2, r3, r4, r5, r6, r7, r8⟩ := HJ.out.row.cells k P hP
      have hgl := HJ.out.row.lt
      have HP := Lib.hid hP; have HK := Lib.hid hk; clear hP hk hPok
      have hok : Hid (Lk.FrOk 2 1 2 R.length) := Lib.hid ⟨by omega, by omega, .inr rfl, by omega⟩
      have hsum : IntKind.i64.wrap ((i : Int) + 1) = (i : Int) + 1 := IntWalk.i64_in _ (by omega)
      have hwz := HJ.out.one.bel.size
      go_wp2_with fail
      clear r0 r1 r2 r3 r4 r5 r6 r7 r8 hgl
      refine (HE.out _).mono ?_
      rintro e v1 ⟨rfl, hb1⟩
      have HJ1 := Lib.hid (HJ.out.below hb1); have hz1 := hb1.size; clear HJ hb1; have HJ := HJ1; clear HJ1
      go_wp2_with fail
      have hl1 := Lk.fenc_length 2 1 2 R
      refine (Lk.encode_fr 2 1 2 R _ a0 (HG.out.below HJ.out.one.bel) hok.out).mono ?_
      rintro e v2 ⟨rfl, hb2⟩
      have HJ1 := Lib.hid (HJ.out.below hb2); have hz2 := hb2.size; clear HJ hb2; have HJ := HJ1; clear HJ1
      have HDF := Lib.hid (Lk.decode_fr 2 1 2 R _ a0 (HG.out.below HJ.out.one.bel) hok.out)
      have HDX := Lib.hid fun k v W hg => Lk.decode_flip 2 1 2 R k v W a0 hg hok.out
      generalize Lk.fenc 2 1 2 R = TL at *
      have hTl : (0 : Int) < (TL.length : Int) := by omega
      have hTl2 : TL.length ≤ 2000 := by omega
      have HL1 := Lib.hid hl1; have HRl := Lib.hid hRl; clear hl1 hRl
      by_cases hcor : i = 0 ∧ m_ ≠ 0
      · have hx0 : ∃ x, x_ % TL.length = x := ⟨_, rfl⟩
        obtain ⟨x, hx⟩ := hx0
        obtain ⟨rfl, hm0⟩ := hcor
        have hxl : x < TL.length := by rw [← hx]; exact Nat.mod_lt _ (by omega)
        have hxm : ((x_ : Int)).tmod (TL.length : Int) = (x : Int) := by rw [Int.tmod_eq_emod_of_nonneg (by omega), ← hx, Int.natCast_emod]
        have hxn : (x_ : Int) % (TL.length : Int) = (x : Int) := by rw [← hx, Int.natCast_emod]
        have HXe := Lib.hid hx; clear hx
        have hT0 : ¬ ((TL.length : Int) = 0) := by omega
        have hmb : ((m_ : Int) != 0) = true := by simp; exact hm0
        have hi0 : (((0 : Nat) : Int) == 0) = true := rfl
        have hx1 : (0 : Int) ≤ (x : Int) := by omega
        have hx2 : (x : Int) ≤ (TL.length : Int) := by omega
        have hx3 : (x : Int) < (TL.length : Int) := by omega
        have hx4 : (x : Int) + 1 ≤ (TL.length : Int) := by omega
        have hx5 : (0 : Int) ≤ (x : Int) + 1 := by omega
        have hx6 : IntKind.i64.wrap ((x : Int) + 1) = (x : Int) + 1 := IntWalk.i64_in _ (by omega)
        have hx7 : ((x : Int) + 1).toNat = x + 1 := by omega
        have q2 : ¬ 9223372036854775807 < min x TL.length + 1 := by omega
        have q3 : ¬ 9223372036854775807 < min x TL.length + 1 + (TL.length - (x + 1)) := by omega
        have q4 : ¬ 9223372036854775807 < x + 1 := by omega
        have q5 : ¬ 9223372036854775807 < x + 1 + (TL.length - (x + 1)) := by omega
        have hcv := convC
        go_upto_region 13 with fail
        go_cut [23] from 45 to 131 (fun s23 wx => s23 = .string ⟨(TL.set x (UInt8.ofNat (bits .xor .u8 ((TL[x]'hxl).toNat : Int) (m_ : Int)).toNat)).toArray⟩ ∧ Below v2.heap.size v2 wx)
        case first =>
          have HB2 := Below.refl v2.heap.size v2
          refine wp_region_held_drew (S := fun w' => Below v2.heap.size v2 w') (by kernel_rfl) (HB2.drew) ?_
          intro hS
          refine wpAnyH_take (i := 0) (oi := ⟨some 86, _, _, _, _, _⟩) (v := ?vt1x0) rfl (by kernel_rfl) (by kernel_rfl) (by kernel_rfl) (fun _ _ _ h => h) (Or.inl ⟨by rfl, ?hyt1x0⟩) (by exact hS) ?ret1x0
          case hyt1x0 => (intro ww hSw; (try dsimp only at hSw); go_simp; first | done | with_reducible rfl)
          try simp only [Act.put, List.setIfInBounds_toArray, List.set_cons_zero, List.set_cons_succ]
          refine wpAnyH_take (i := 1) (oi := ⟨some 87, _, _, _, _, _⟩) (v := ?vt1x1) rfl (by kernel_rfl) (by kernel_rfl) (by kernel_rfl) (fun _ _ _ h => h) (Or.inl ⟨by rfl, ?hyt1x1⟩) (by exact hS) ?ret1x1
          case hyt1x1 => (intro ww hSw; (try dsimp only at hSw); go_simp; first | done | with_reducible rfl)
          try simp only [Act.put, List.setIfInBounds_toArray, List.set_cons_zero, List.set_cons_succ]
          refine wpAnyH_take (i := 2) (oi := ⟨some 88, _, _, _, _, _⟩) (v := ?vt1x2) rfl (by kernel_rfl) (by kernel_rfl) (by kernel_rfl) (fun _ _ _ h => h) (Or.inl ⟨by rfl, ?hyt1x2⟩) (by exact hS) ?ret1x2
          case hyt1x2 => (intro ww hSw; (try dsimp only at hSw); go_simp; first | done | with_reducible rfl)
          try simp only [Act.put, List.setIfInBounds_toArray, List.set_cons_zero, List.set_cons_succ]
          refine wpAnyH_take (i := 3) (oi := ⟨some 89, _, _, _, _, _⟩) (v := ?vt1x3) rfl (by kernel_rfl) (by kernel_rfl) (by kernel_rfl) (fun _ _ _ h => h) (Or.inl ⟨by rfl, ?hyt1x3⟩) (by exact hS) ?ret1x3
          case hyt1x3 => (intro ww hSw; (try dsimp only at hSw); go_simp; first | done | with_reducible rfl)
          try simp only [Act.put, List.setIfInBounds_toArray, List.set_cons_zero, List.set_cons_succ]
          refine wpAnyH_take (i := 4) (oi := ⟨some 90, _, _, _, _, _⟩) (v := ?vt1x4) rfl (by kernel_rfl) (by kernel_rfl) (by kernel_rfl) (fun _ _ _ h => h) (Or.inl ⟨by rfl, ?hyt1x4⟩) (by exact hS) ?ret1x4
          case hyt1x4 => (intro ww hSw; (try dsimp only at hSw); go_simp; first | done | with_reducible rfl)
          try simp only [Act.put, List.setIfInBounds_toArray, List.set_cons_zero, List.set_cons_succ]
          refine wpAnyH_take (i := 5) (oi := ⟨some 91, _, _, _, _, _⟩) (v := ?vt1x5) rfl (by kernel_rfl) (by kernel_rfl) (by kernel_rfl) (fun _ _ _ h => h) (Or.inl ⟨by rfl, ?hyt1x5⟩) (by exact hS) ?ret1x5
          case hyt1x5 => (intro ww hSw; (try dsimp only at hSw); go_simp; first | done | with_reducible rfl)
          try simp only [Act.put, List.setIfInBounds_toArray, List.set_cons_zero, List.set_cons_succ]
          refine wpAnyH_take (i := 6) (oi := ⟨some 92, _, _, _, _, _⟩) (v := ?vt1x6) rfl (by kernel_rfl) (by kernel_rfl) (by kernel_rfl) (fun _ _ _ h => h) (Or.inl ⟨by rfl, ?hyt1x6⟩) (by exact hS) ?ret1x6
          case hyt1x6 => (intro ww hSw; (try dsimp only at hSw); go_simp; first | done | with_reducible rfl)
          try simp only [Act.put, List.setIfInBounds_toArray, List.set_cons_zero, List.set_cons_succ]
          refine wpAnyH_take (i := 7) (oi := ⟨some 93, _, _, _, _, _⟩) (v := ?vt1x7) rfl (by kernel_rfl) (by kernel_rfl) (by kernel_rfl) (fun _ _ _ h => h) (Or.inl ⟨by rfl, ?hyt1x7⟩) (by exact hS) ?ret1x7
          case hyt1x7 => (intro ww hSw; (try dsimp only at hSw); go_simp; first | done | with_reducible rfl)
          try simp only [Act.put, List.setIfInBounds_toArray, List.set_cons_zero, List.set_cons_succ]
          refine wpAnyH_take (i := 11) (oi := ⟨some 97, _, _, _, _, _⟩) (v := ?vt1x11) rfl (by kernel_rfl) (by kernel_rfl) (by kernel_rfl) (fun _ _ _ h => h) (Or.inl ⟨by rfl, ?hyt1x11⟩) (by exact hS) ?ret1x11
          case hyt1x11 => (intro ww hSw; (try dsimp only at hSw); go_simp; first | done | with_reducible rfl)
          try simp only [Act.put, List.setIfInBounds_toArray, List.set_cons_zero, List.set_cons_succ]
          refine wpAnyH_take (i := 12) (oi := ⟨some 98, _, _, _, _, _⟩) (v := ?vt1x12) rfl (by kernel_rfl) (by kernel_rfl) (by kernel_rfl) (fun _ _ _ h => h) (Or.inl ⟨by rfl, ?hyt1x12⟩) (by exact hS) ?ret1x12
          case hyt1x12 => (intro ww hSw; (try dsimp only at hSw); go_simp; first | done | with_reducible rfl)
          try simp only [Act.put, List.setIfInBounds_toArray, List.set_cons_zero, List.set_cons_succ]
          refine wpAnyH_take (i := 13) (oi := ⟨some 99, _, _, _, _, _⟩) (v := ?vt1x13) rfl (by kernel_rfl) (by kernel_rfl) (by kernel_rfl) (fun _ _ _ h => h) (Or.inl ⟨by rfl, ?hyt1x13⟩) (by exact hS) ?ret1x13
          case hyt1x13 => (intro ww hSw; (try dsimp only at hSw); go_simp; first | done | with_reducible rfl)
          try simp only [Act.put, List.setIfInBounds_toArray, List.set_cons_zero, List.set_cons_succ]
          refine wpAnyH_take (i := 14) (oi := ⟨some 100, _, _, _, _, _⟩) (v := ?vt1x14) rfl (by kernel_rfl) (by kernel_rfl) (by kernel_rfl) (fun _ _ _ h => h) (Or.inl ⟨by rfl, ?hyt1x14⟩) (by exact hS) ?ret1x14
          case hyt1x14 => (intro ww hSw; (try dsimp only at hSw); go_simp; first | done | with_reducible rfl)
          try simp only [Act.put, List.setIfInBounds_toArray, List.set_cons_zero, List.set_cons_succ]
          refine wpAnyH_ready (rs := [8]) (by kernel_rfl) (by simp) ?_
          refine AllReadyH.cons (o := ⟨some 94, _, _, _, _, _⟩) rfl (fun K2 hK2 => ?_) AllReadyH.nil
          go_simp
          have hbx : Hid (bits .xor .u8 ((((⟨TL.toArray⟩ : ByteArray)[x]'hxl).toNat : Nat) : Int) (m_ : Int) = bits .xor .u8 ((TL[x]'hxl).toNat : Int) (m_ : Int)) := Lib.hid rfl
          generalize bits .xor .u8 ((((⟨TL.toArray⟩ : ByteArray)[x]'hxl).toNat : Nat) : Int) (m_ : Int) = bx at *
          have c1h : Hid ((v2.alloc (.cells #[.int .u8 bx] 5)).cell? ⟨v2.heap.size, 0, none⟩ = some (.int .u8 bx)) := Lib.hid (cell_of_box (alloc_new v2 _)).1
          refine hK2.out _ _ (below_alloc HB2.drew) (fun h2 => ?_)
          try simp only [Act.put, List.setIfInBounds_toArray, List.set_cons_zero, List.set_cons_succ]
          refine wpAnyH_sharpen (S1 := (fun w' : World => Below v2.heap.size v2 w' ∧ w'.cell? ⟨v2.heap.size, 0, none⟩ = some (.int .u8 bx))) (fun _ h => h.1) _ _ _ _ ?_
          have hS1 : (fun w' : World => Below v2.heap.size v2 w' ∧ w'.cell? ⟨v2.heap.size, 0, none⟩ = some (.int .u8 bx)) (v2.alloc (.cells #[.int .u8 bx] 5)).drew := ⟨below_alloc HB2.drew, c1h.out⟩
          refine wpAnyH_take (i := 9) (oi := ⟨some 95, _, _, _, _, _⟩) (v := ?vt3x9) rfl (by kernel_rfl) (by kernel_rfl) (by kernel_rfl) (fun _ _ _ h => h) (Or.inl ⟨by rfl, ?hyt3x9⟩) (by exact hS1) ?ret3x9
          case hyt3x9 => (intro ww hSw; (try dsimp only at hSw); go_simp; first | done | with_reducible rfl)
          try simp only [Act.put, List.setIfInBounds_toArray, List.set_cons_zero, List.set_cons_succ]
          refine wpAnyH_take (i := 10) (oi := ⟨some 96, _, _, _, _, _⟩) (v := ?vt3x10) rfl (by kernel_rfl) (by kernel_rfl) (by kernel_rfl) (fun _ _ _ h => h) (Or.inl ⟨by rfl, ?hyt3x10⟩) (by exact hS1) ?ret3x10
          case hyt3x10 => (intro ww hSw; (try dsimp only at hSw); go_simp; first | done | with_reducible rfl)
          try simp only [Act.put, List.setIfInBounds_toArray, List.set_cons_zero, List.set_cons_succ]
          refine wpAnyH_take (i := 15) (oi := ⟨some 101, _, _, _, _, _⟩) (v := ?vt3x15) rfl (by kernel_rfl) (by kernel_rfl) (by kernel_rfl) (fun _ _ _ h => h) (Or.inl ⟨by rfl, ?hyt3x15⟩) (by exact hS1) ?ret3x15
          case hyt3x15 => (intro ww hSw; (try dsimp only at hSw); go_simp; first | done | with_reducible rfl)
          try simp only [Act.put, List.setIfInBounds_toArray, List.set_cons_zero, List.set_cons_succ]
          refine wpAnyH_take (i := 16) (oi := ⟨some 23, _, _, _, _, _⟩) (v := ?vt3x16) rfl (by kernel_rfl) (by kernel_rfl) (by kernel_rfl) (fun _ _ _ h => h) (Or.inl ⟨by rfl, ?hyt3x16⟩) (by exact hS1) ?ret3x16
          case hyt3x16 => (intro ww hSw; (try dsimp only at hSw); go_simp; first | done | with_reducible rfl)
          try simp only [Act.put, List.setIfInBounds_toArray, List.set_cons_zero, List.set_cons_succ]
          refine wpAnyH_done (by kernel_rfl) ?_ _
          go_wp2_with fail
          go_meet
          exact ⟨congrArg Value.string (by rw [hbx.out]; exact flipC TL x hxl _), below_alloc HB2.drew⟩
        case rest =>
          obtain ⟨rfl, hbc⟩ := hcut
          have hvne : UInt8.ofNat (bits .xor .u8 ((TL[x]'hxl).toNat : Int) (m_ : Int)).toNat ≠ TL[x]'hxl := Lk.xor_away _ m_ (by omega) hm
          have HJ1 := Lib.hid (HJ.out.below hbc); have hzc := hbc.size; clear HJ hbc; have HJ := HJ1; clear HJ1
          have HD2 := Lib.hid (HDX.out x _ _ (HG.out.below HJ.out.one.bel) hxl hvne)
          have hfl : (TL.set x (UInt8.ofNat (bits .xor .u8 ((TL[x]'hxl).toNat : Int) (m_ : Int)).toNat)).length = TL.length := List.length_set
          have hlo : lost = 1 := by rw [HLost.out, if_neg hm0]
          have HLo := Lib.hid hlo; clear hlo hvne hcv hx1 hx2 hx3 hx4 hx5 hx6 hx7 q2 q3 q4 q5 hxm hxn hT0
          generalize TL.set x (UInt8.ofNat (bits .xor .u8 ((TL[x]'hxl).toNat : Int) (m_ : Int)).toNat) = TX at *
          go_wp2_with fail
          refine HD2.out.mono ?_
          rintro e v3 ⟨rfl, hb3⟩
          have HJ1 := Lib.hid (HJ.out.below hb3); have hz3 := hb3.size; clear HJ hb3; have HJ := HJ1; clear HJ1
          go_wp2_with fail
          exact ⟨⟨0 + 1, by omega, by go_num, (HCS.out _ _ _ _ _).2 ⟨A, HLL.out ▸ HJ.out.alloc _, HR.out.skip (by rw [HLo.out]; omega), fun h => (by have h9 := h.1; rw [HLo.out] at h9; omega), by simp; omega⟩⟩, by simp [intOf]; omega⟩
      · have hnl : lost ≤ i := by rw [HLost.out]; split <;> omega
        have hcd : (((i : Int) == 0) = true ∧ ((m_ : Int) != 0) = false) ∨ ((i : Int) == 0) = false := by
          by_cases c : i = 0
          · left; refine ⟨by simp [c], ?_⟩
            have : m_ = 0 := by
              apply Classical.byContradiction; intro h; exact hcor ⟨c, h⟩
            simp [this]
          · right; simp; omega
        clear hcor
        skip
        rcases hcd with ⟨c1, c2⟩ | c1
        all_goals
          go_wp2_with fail
          refine HDF.out.mono ?_
          rintro e v3 ⟨rfl, hb3⟩
          have HJ1 := Lib.hid (HJ.out.below hb3); have hz3 := hb3.size; clear HJ hb3; have HJ := HJ1; clear HJ1
          have Hf := Lib.hid (alloc_new v3 (.cells #[.int .i64 2, .int .i64 1, .int .i64 2, .string ⟨R.toArray⟩] 48))
          have HJ1 := Lib.hid (HJ.out.alloc (.cells #[.int .i64 2, .int .i64 1, .int .i64 2, .string ⟨R.toArray⟩] 48)); clear HJ; have HJ := HJ1; clear HJ1
          have qf0 := (cell_of_block (k := 0) Hf.out rfl).1; have qf1 := (cell_of_block (k := 1) Hf.out rfl).1; have qf2 := (cell_of_block (k := 2) Hf.out rfl).1; have qf3 := (cell_of_block (k := 3) Hf.out rfl).1; have lt_f := blk_lt Hf.out; have hsf : v3.heap.size + 1 = (v3.alloc (.cells #[.int .i64 2, .int .i64 1, .int .i64 2, .string ⟨R.toArray⟩] 48)).heap.size := by simp
          have HAd := Lib.hid fun W => Lk.addressed_any 2 1 2 2 ⟨R.toArray⟩ W; rw [show decide (((2 : Int) = 2 ∨ (2 : Int) = 65535) ∧ (1 : Int) ≠ 2) = true from by decide] at HAd
          go_wp2_with fail
          refine (HAd.out _).mono ?_
          rintro e v4 ⟨rfl, hb4⟩
          have qg3 := bcell hb4 qf3; have lt_g : v3.heap.size < v4.heap.size := Nat.lt_of_lt_of_le lt_f hb4.size
          have HJ1 := Lib.hid (HJ.out.below hb4); have hz4 := hb4.size; clear HJ hb4; have HJ := HJ1; clear HJ1
          clear qf0 qf1 qf2 qf3
          go_wp2_with fail
          refine (HDk.out _).mono ?_
          rintro e v5 ⟨rfl, hb5⟩
          have HJ1 := Lib.hid (HJ.out.below hb5); have hz5 := hb5.size; clear HJ hb5; have HJ := HJ1; clear HJ1
          clear qg3
          have Hb := Lib.hid (alloc_new v5 (.cells #[.int .i64 P.f, .int .i64 P.t, .int .i64 P.pr, .int .i64 P.ttl, .int .i64 P.id, .bool P.df, .bool P.mf, .int .i64 P.off, .string P.s] 83))
          have HJ1 := Lib.hid (HJ.out.alloc (.cells #[.int .i64 P.f, .int .i64 P.t, .int .i64 P.pr, .int .i64 P.ttl, .int .i64 P.id, .bool P.df, .bool P.mf, .int .i64 P.off, .string P.s] 83)); clear HJ; have HJ := HJ1; clear HJ1
          have qb0 := (cell_of_block (k := 0) Hb.out rfl).1; have qb1 := (cell_of_block (k := 1) Hb.out rfl).1; have qb2 := (cell_of_block (k := 2) Hb.out rfl).1; have qb3 := (cell_of_block (k := 3) Hb.out rfl).1; have qb4 := (cell_of_block (k := 4) Hb.out rfl).1; have qb5 := (cell_of_block (k := 5) Hb.out rfl).1; have qb6 := (cell_of_block (k := 6) Hb.out rfl).1; have qb7 := (cell_of_block (k := 7) Hb.out rfl).1; have qb8 := (cell_of_block (k := 8) Hb.out rfl).1; have lt_b := blk_lt Hb.out; have hsb : v5.heap.size + 1 = (v5.alloc (.cells #[.int .i64 P.f, .int .i64 P.t, .int .i64 P.pr, .int .i64 P.ttl, .int .i64 P.id, .bool P.df, .bool P.mf, .int .i64 P.off, .string P.s] 83)).heap.size := by simp
          obtain ⟨A', hput⟩ := HR.out.put HC.out (by rw [HLL.out, HM.out]; exact hlt) hnl 0 P (by rw [HLL.out, HM.out, HK.out]; exact HP.out)
          have hAl := HR.out.len
          go_wp2_with fail
          rcases hput with ⟨h0, h1, he⟩ | ⟨hno, he, hR2⟩
          · refine (HJ.out.put 0 P _ A' true 0 he (by omega) (by omega) ⟨by omega, by omega⟩ (by omega)).mono ?_
            rintro e v6 ⟨rfl, hJ6, hz6⟩
            have HJ6 := Lib.hid hJ6; clear hJ6
            have hm0 : m_ = 0 := by apply Classical.byContradiction; intro h; have := HLost.out; rw [if_neg h] at this; omega
            have HM0 := Lib.hid hm0; clear hm0
            unfold PutRes PkV
            go_wp2_with fail
            go_ret2
            exact ⟨by rw [HV0.out HM0.out]; rfl, below_alloc HJ6.out.one.bel⟩
          · refine (HJ.out.put 0 P _ A' false 0 he (by omega) (by omega) ⟨by omega, by omega⟩ (by omega)).mono ?_
            rintro e v6 ⟨rfl, hJ6, hz6⟩
            have HJ6 := Lib.hid hJ6; clear hJ6
            have HN6 := Lib.hid hno; have HR6 := Lib.hid hR2; clear hno hR2 he
            unfold PutRes PkV
            go_wp2_with fail
            exact ⟨⟨i + 1, by omega, by go_num, (HCS.out _ _ _ _ _).2 ⟨A', HLL.out ▸ HJ6.out.alloc _, HR6.out, (by have := HN6.out; rw [HLL.out] at this; exact this), by simp; omega⟩⟩, by simp [intOf]; omega⟩
    · have hil : decide ((i : Int) < (M : Int)) = false := by simp; omega
      have hm0 : ¬ m_ = 0 := fun h => by
        have h9 := HLost.out; rw [if_pos h] at h9
        exact HNe.out ⟨h9, by rw [HM.out]; omega⟩
      have HM0 := Lib.hid hm0; clear hm0
      go_wp2_with fail
      go_ret2
      exact ⟨by rw [HV1.out HM0.out]; rfl, HJ.out.one.bel⟩
end Go.Proofs.YtmgjcjacoegocaaDoor.Re
