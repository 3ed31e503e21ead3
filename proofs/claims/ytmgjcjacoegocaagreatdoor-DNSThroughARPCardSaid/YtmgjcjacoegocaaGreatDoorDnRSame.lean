/-
  The contract of the reference's Same.
-/
import Derived.Test.YtmgjcjacoegocaaGreatDoorDnSame
namespace Go.Proofs.YtmgjcjacoegocaaGreatDoor.Dn
set_option maxRecDepth 100000
open Go.RowKit Go.Proofs.YtmgjcjacoegocaaGreatDoor.Wire Go.Proofs.YtmgjcjacoegocaaGreatDoor.Rw

set_option maxHeartbeats 8000000 in
theorem rsame_any (a b : Msg) (A1 A2 : Option Addr) (c1 c2 lo1 lo2 : Nat) (w : World) (hl1 : a.recs.length ≤ 1000000) (hl2 : b.recs.length ≤ 1000000) (hr1 : RRow w lo1 A1 c1 a.recs) (hr2 : RRow w lo2 A2 c2 b.recs) :
    Calls Tryz.prog 19 #[.agg (mcells a A1 c1).toArray, .agg (mcells b A2 c2).toArray] w fun e w' => e = .returned (.bool (decide (a = b))) ∧ Below w.heap.size w w' := by
  have Hm1 := Lib.hid (block_alloc (alloc_new w (mBox a A1 c1)) (mBox b A2 c2))
  have Hm2 := Lib.hid (alloc_new' (w.alloc (mBox a A1 c1)) (mBox b A2 c2) (w.heap.size + 1) (by simp))
  have HB := Lib.hid (below_alloc (o := mBox b A2 c2) (below_alloc (o := mBox a A1 c1) (Below.refl w.heap.size w)))
  have HR1 := Lib.hid (hr1.below HB.out); have HR2 := Lib.hid (hr2.below HB.out)
  clear hr1 hr2
  obtain ⟨id, ans, code, nm, kd, recs⟩ := a
  obtain ⟨id', ans', code', nm', kd', recs'⟩ := b
  have hD : Hid ((⟨id, ans, code, nm, kd, recs⟩ : Msg) = ⟨id', ans', code', nm', kd', recs'⟩ ↔ ((id = id' ∧ ans = ans' ∧ code = code' ∧ nm = nm' ∧ kd = kd' ∧ recs.length = recs'.length) ∧ recs = recs')) := Lib.hid (by
    rw [Msg.mk.injEq]
    constructor
    · rintro ⟨h1, h2, h3, h4, h5, h6⟩; exact ⟨⟨h1, h2, h3, h4, h5, by rw [h6]⟩, h6⟩
    · rintro ⟨⟨h1, h2, h3, h4, h5, -⟩, h6⟩; exact ⟨h1, h2, h3, h4, h5, h6⟩)
  have HP : Hid (∀ v w', (v = decide (((⟨id, ans, code, nm, kd, recs⟩ : Msg) = ⟨id', ans', code', nm', kd', recs'⟩))) → Below w.heap.size w w' → (Ending.returned (.bool v) = .returned (.bool (decide ((⟨id, ans, code, nm, kd, recs⟩ : Msg) = ⟨id', ans', code', nm', kd', recs'⟩))) ∧ Below w.heap.size w w')) := Lib.hid fun v w' h1 h2 => ⟨by rw [h1], h2⟩
  generalize hdd : decide ((⟨id, ans, code, nm, kd, recs⟩ : Msg) = ⟨id', ans', code', nm', kd', recs'⟩) = dd at *
  have HDD := Lib.hid hdd; clear hdd
  unfold mBox mcells at *
  dsimp only at *
  have e1 := ba_inj nm nm'
  generalize (⟨nm.toArray⟩ : ByteArray) = x1 at *
  generalize (⟨nm'.toArray⟩ : ByteArray) = x2 at *
  have E1 := Lib.hid e1; clear e1
  obtain ⟨⟨m0, m1, m2, m3, m4, m5⟩, -⟩ := cells6 Hm1.out
  obtain ⟨⟨n0, n1, n2, n3, n4, n5⟩, -⟩ := cells6 Hm2.out
  by_cases h6 : recs.length = recs'.length
  · have hlq : ((recs.length : Int) != (recs'.length : Int)) = false := by rw [bne_eq_false_iff_eq, h6]
    have H6 := Lib.hid h6; clear h6
    go_enter Tryz.func19, Tryz.ntmps19
    go_wp2_with fail
    clear m0 m1 m2 m3 m4 m5 n0 n1 n2 n3 n4 n5
    generalize hW1 : (w.alloc (.cells #[.int .i64 id, .bool ans, .int .i64 code, .string x1, .int .i64 kd, .slice A1 recs.length c1] 39)).alloc (.cells #[.int .i64 id', .bool ans', .int .i64 code', .string x2, .int .i64 kd', .slice A2 recs'.length c2] 39) = W1 at *
    clear hW1
    go_loopw [5] (fun u wr => ∃ k : Nat, k ≤ recs.length ∧ u = .int .i64 (k : Int) ∧ Below W1.heap.size W1 wr ∧ ∀ j, j < k → recs[j]? = recs'[j]?) (fun u _ => recs.length - (Go.RowKit.intOf u).toNat)
    case atStart => exact ⟨0, by omega, rfl, Below.refl _ _, fun j h => by omega⟩
    case round =>
      obtain ⟨k, hk, rfl, hbr, hin⟩ := hrel
      have HIn := Lib.hid hin; clear hin
      have HBr := below_call HB.out hbr
      have hl6 := H6.out
      have Hr1 := Lib.hid (bblock hbr Hm1.out); have Hr2 := Lib.hid (bblock hbr Hm2.out)
      obtain ⟨⟨m0, m1, m2, m3, m4, m5⟩, -⟩ := cells6 Hr1.out
      obtain ⟨⟨n0, n1, n2, n3, n4, n5⟩, -⟩ := cells6 Hr2.out
      by_cases hlt : k < recs.length
      · have hlt2 : k < recs'.length := by omega
        have hkl : decide ((k : Int) < (recs.length : Int)) = true := decide_eq_true (by omega)
        have hk1 : (k : Int) < (recs.length : Int) := by omega
        have hk2 : (k : Int) < (recs'.length : Int) := by omega
        have hk0 : (0 : Int) ≤ (k : Int) := by omega
        obtain ⟨g, hA, hlo, d0, d1, d2, d3, d4⟩ := (HR1.out.below hbr).at hlt
        obtain ⟨g', hA', hlo', f0, f1, f2, f3, f4⟩ := (HR2.out.below hbr).at hlt2
        subst hA; subst hA'
        have HG1 : Hid (recs[k]? = some recs[k]) := Lib.hid (List.getElem?_eq_getElem hlt)
        have HG2 : Hid (recs'[k]? = some recs'[k]) := Lib.hid (List.getElem?_eq_getElem hlt2)
        have hq := eqRec recs[k] recs'[k]
        generalize recs[k] = r at *
        generalize recs'[k] = r' at *
        by_cases hrr : r = r'
        · have HQ := Lib.hid hrr
          rw [decide_eq_true hrr] at hq
          clear hrr
          go_upto_region 6 with fail
          go_quiet (fail)
          go_wp2_with fail
          refine ⟨⟨k + 1, by omega, by go_num, ⟨hbr.os, hbr.tape, hbr.output, hbr.size, hbr.block⟩, fun j h => ?_⟩, by simp [Go.RowKit.intOf]; omega⟩
          by_cases e : j = k
          · subst e; rw [HG1.out, HG2.out, HQ.out]
          · exact HIn.out j (by omega)
        · have HQ := Lib.hid hrr
          rw [decide_eq_false hrr] at hq
          clear hrr
          go_upto_region 6 with fail
          go_quiet (fail)
          go_wp2_with fail
          have HF : Hid (dd = false) := Lib.hid (by
            rw [← HDD.out]
            refine decide_eq_false fun q => ?_
            have q2 := (hD.out.1 q).2
            have q3 := HG1.out
            rw [q2, HG2.out] at q3
            exact HQ.out (Option.some.inj q3).symm)
          go_ret
          exact HP.out _ _ (by rw [HF.out]) ⟨HBr.os, HBr.tape, HBr.output, HBr.size, HBr.block⟩
      · have hkl : decide ((k : Int) < (recs.length : Int)) = false := decide_eq_false (by omega)
        have hall : recs = recs' := by
          apply List.ext_getElem?
          intro j
          by_cases hj : j < recs.length
          · exact HIn.out j (by omega)
          · rw [List.getElem?_eq_none (by omega), List.getElem?_eq_none (by omega)]
        by_cases h : id = id' ∧ ans = ans' ∧ code = code' ∧ nm = nm' ∧ kd = kd'
        · have HT : Hid (dd = true) := Lib.hid (by rw [← HDD.out]; exact decide_eq_true (hD.out.2 ⟨⟨h.1, h.2.1, h.2.2.1, h.2.2.2.1, h.2.2.2.2, H6.out⟩, hall⟩))
          have e1 : (id == id') = true := by rw [beq_iff_eq]; exact h.1
          have e2 : (ans == ans') = true := by rw [beq_iff_eq]; exact h.2.1
          have e3 : (code == code') = true := by rw [beq_iff_eq]; exact h.2.2.1
          have e4 : (x1.toList == x2.toList) = true := by rw [beq_iff_eq]; exact E1.out.2 h.2.2.2.1
          have e5 : (kd == kd') = true := by rw [beq_iff_eq]; exact h.2.2.2.2
          clear h hall
          go_wp2_with fail
          go_ret
          exact HP.out _ _ (by rw [HT.out]) HBr
        · have HN : Hid (dd = false) := Lib.hid (by rw [← HDD.out]; exact decide_eq_false fun q => h (by obtain ⟨⟨a1, a2, a3, a4, a5, -⟩, -⟩ := hD.out.1 q; exact ⟨a1, a2, a3, a4, a5⟩))
          have HH := Lib.hid h; clear h hall
          by_cases a0 : id = id'
          rotate_left
          · have e0 : (id == id') = false := by rw [beq_eq_false_iff_ne]; exact a0
            clear a0
            go_wp2_with fail
            go_ret
            exact HP.out _ _ (by rw [HN.out]) HBr
          have e0 : (id == id') = true := by rw [beq_iff_eq]; exact a0
          by_cases a1 : ans = ans'
          rotate_left
          · have e1 : (ans == ans') = false := by rw [beq_eq_false_iff_ne]; exact a1
            clear a0 a1
            go_wp2_with fail
            go_ret
            exact HP.out _ _ (by rw [HN.out]) HBr
          have e1 : (ans == ans') = true := by rw [beq_iff_eq]; exact a1
          by_cases a2 : code = code'
          rotate_left
          · have e2 : (code == code') = false := by rw [beq_eq_false_iff_ne]; exact a2
            clear a0 a1 a2
            go_wp2_with fail
            go_ret
            exact HP.out _ _ (by rw [HN.out]) HBr
          have e2 : (code == code') = true := by rw [beq_iff_eq]; exact a2
          by_cases a3 : nm = nm'
          rotate_left
          · have e3 : (x1.toList == x2.toList) = false := by rw [beq_eq_false_iff_ne]; exact fun q => a3 (E1.out.1 q)
            clear a0 a1 a2 a3
            go_wp2_with fail
            go_ret
            exact HP.out _ _ (by rw [HN.out]) HBr
          have e3 : (x1.toList == x2.toList) = true := by rw [beq_iff_eq]; exact E1.out.2 a3
          by_cases a4 : kd = kd'
          rotate_left
          · have e4 : (kd == kd') = false := by rw [beq_eq_false_iff_ne]; exact a4
            clear a0 a1 a2 a3 a4
            go_wp2_with fail
            go_ret
            exact HP.out _ _ (by rw [HN.out]) HBr
          have e4 : (kd == kd') = true := by rw [beq_iff_eq]; exact a4
          exact absurd ⟨a0, a1, a2, a3, a4⟩ HH.out
  · have HN : Hid (dd = false) := Lib.hid (by rw [← HDD.out]; exact decide_eq_false fun q => h6 (hD.out.1 q).1.2.2.2.2.2)
    have hlq : ((recs.length : Int) != (recs'.length : Int)) = true := by rw [bne_iff_ne]; omega
    clear h6
    go_enter Tryz.func19, Tryz.ntmps19
    go_wp2_with fail
    go_ret
    exact HP.out _ _ (by rw [HN.out]) HB.out
end Go.Proofs.YtmgjcjacoegocaaGreatDoor.Dn
