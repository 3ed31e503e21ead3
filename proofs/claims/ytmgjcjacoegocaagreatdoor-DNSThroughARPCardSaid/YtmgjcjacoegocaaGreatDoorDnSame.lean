/-
  The contract of dns.Same.
-/
import Derived.Test.YtmgjcjacoegocaaGreatDoorDnMsg
import Derived.Laws.StructEq
import Derived.Deep.QuietTactic
import Derived.BigQuiet
import Derived.Deep.DeepCutAuto
import Derived.Outline
namespace Go.Proofs.YtmgjcjacoegocaaGreatDoor.Dn
set_option maxRecDepth 100000
open Go.RowKit Go.Proofs.YtmgjcjacoegocaaGreatDoor.Wire Go.Proofs.YtmgjcjacoegocaaGreatDoor.Rw

theorem ba_inj (a b : List UInt8) : ((⟨a.toArray⟩ : ByteArray).toList = (⟨b.toArray⟩ : ByteArray).toList) ↔ a = b := by
  rw [ByteArray.toList_eq, ByteArray.toList_eq]
set_option maxHeartbeats 1000000 in
theorem eqRec (p q : Rec) : ∀ w : World, (Op.equalIn 10000 92 (.agg #[.string ⟨p.nm.toArray⟩, .int .i64 p.kd, .int .i64 p.ttl, .int .i64 p.addr, .string ⟨p.dst.toArray⟩]) (.agg #[.string ⟨q.nm.toArray⟩, .int .i64 q.kd, .int .i64 q.ttl, .int .i64 q.addr, .string ⟨q.dst.toArray⟩])).run Tryz.prog w = .ok (decide (p = q)) w := by
  intro w
  obtain ⟨n1, k1, t1, a1, d1⟩ := p
  obtain ⟨n2, k2, t2, a2, d2⟩ := q
  dsimp only
  have e1 := ba_inj n1 n2
  have e2 := ba_inj d1 d2
  generalize (⟨n1.toArray⟩ : ByteArray) = x1 at *
  generalize (⟨n2.toArray⟩ : ByteArray) = x2 at *
  generalize (⟨d1.toArray⟩ : ByteArray) = y1 at *
  generalize (⟨d2.toArray⟩ : ByteArray) = y2 at *
  have E1 := Lib.hid e1; have E2 := Lib.hid e2; clear e1 e2
  go_simp
  by_cases h0 : x1.toList = x2.toList
  case neg => (rw [if_neg h0]; have h0' : ¬ n1 = n2 := fun e => h0 (E1.out.2 e); simp [h0'])
  rw [if_pos h0]
  by_cases h1 : k1 = k2
  case neg => rw [if_neg h1]; simp [h1]
  rw [if_pos h1]
  by_cases h2 : t1 = t2
  case neg => rw [if_neg h2]; simp [h2]
  rw [if_pos h2]
  by_cases h3 : a1 = a2
  case neg => rw [if_neg h3]; simp [h3]
  rw [if_pos h3]
  by_cases h4 : y1.toList = y2.toList
  case neg => (rw [if_neg h4]; have h4' : ¬ d1 = d2 := fun e => h4 (E2.out.2 e); simp [h4'])
  rw [if_pos h4]
  simp [E1.out.1 h0, h1, h2, h3, E2.out.1 h4]
def mBox (d : Msg) (A : Option Addr) (c : Nat) : Obj := .cells #[.int .i64 d.id, .bool d.ans, .int .i64 d.code, .string ⟨d.nm.toArray⟩, .int .i64 d.kd, .slice A d.recs.length c] 39
set_option maxHeartbeats 8000000 in
theorem same_any (a b : Msg) (A1 A2 : Option Addr) (c1 c2 lo1 lo2 : Nat) (w : World) (hl1 : a.recs.length ≤ 1000000) (hl2 : b.recs.length ≤ 1000000) (hr1 : RRow w lo1 A1 c1 a.recs) (hr2 : RRow w lo2 A2 c2 b.recs) :
    Calls Tryz.prog 29 #[.agg (mcells a A1 c1).toArray, .agg (mcells b A2 c2).toArray] w fun e w' => e = .returned (.bool (decide (a = b))) ∧ Below w.heap.size w w' := by
  have Hm1 := Lib.hid (block_alloc (alloc_new w (mBox a A1 c1)) (mBox b A2 c2))
  have Hm2 := Lib.hid (alloc_new' (w.alloc (mBox a A1 c1)) (mBox b A2 c2) (w.heap.size + 1) (by simp))
  have HB := Lib.hid (below_alloc (o := mBox b A2 c2) (below_alloc (o := mBox a A1 c1) (Below.refl w.heap.size w)))
  have HR1 := Lib.hid (hr1.below HB.out); have HR2 := Lib.hid (hr2.below HB.out)
  clear hr1 hr2
  obtain ⟨id, ans, code, nm, kd, recs⟩ := a
  obtain ⟨id', ans', code', nm', kd', recs'⟩ := b
  have hD : Hid ((⟨id, ans, code, nm, kd, recs⟩ : Msg) = ⟨id', ans', code', nm', kd', recs'⟩ ↔ ((id = id' ∧ ans = ans' ∧ code = code' ∧ nm = nm' ∧ kd = kd' ∧ recs.length = recs'.length) ∧ recs = recs')) := Lib.hid (by
    rw [Msg.mk.injEq]
    constructor
    · rintro ⟨h1, h2, h3, h4, h5, h6⟩; exact ⟨⟨h1, h2, h3, h4, h5, by rw [h6]⟩, h6⟩
    · rintro ⟨⟨h1, h2, h3, h4, h5, -⟩, h6⟩; exact ⟨h1, h2, h3, h4, h5, h6⟩)
  have HP : Hid (∀ v w', (v = decide (((⟨id, ans, code, nm, kd, recs⟩ : Msg) = ⟨id', ans', code', nm', kd', recs'⟩))) → Below w.heap.size w w' → (Ending.returned (.bool v) = .returned (.bool (decide ((⟨id, ans, code, nm, kd, recs⟩ : Msg) = ⟨id', ans', code', nm', kd', recs'⟩))) ∧ Below w.heap.size w w')) := Lib.hid fun v w' h1 h2 => ⟨by rw [h1], h2⟩
  generalize hdd : decide ((⟨id, ans, code, nm, kd, recs⟩ : Msg) = ⟨id', ans', code', nm', kd', recs'⟩) = dd at *
  have HDD := Lib.hid hdd; clear hdd
  unfold mBox mcells at *
  dsimp only at *
  have e1 := ba_inj nm nm'
  generalize (⟨nm.toArray⟩ : ByteArray) = x1 at *
  generalize (⟨nm'.toArray⟩ : ByteArray) = x2 at *
  have E1 := Lib.hid e1; clear e1
  obtain ⟨⟨m0, m1, m2, m3, m4, m5⟩, -⟩ := cells6 Hm1.out
  obtain ⟨⟨n0, n1, n2, n3, n4, n5⟩, -⟩ := cells6 Hm2.out
  by_cases h : id = id' ∧ ans = ans' ∧ code = code' ∧ nm = nm' ∧ kd = kd' ∧ recs.length = recs'.length
  · obtain ⟨rfl, rfl, rfl, h4, rfl, h6⟩ := h
    have hx := E1.out.2 h4
    have hlq : ((recs.length : Int) != (recs'.length : Int)) = false := by rw [bne_eq_false_iff_eq, h6]
    have hxq : (x1.toList == x2.toList) = true := by rw [beq_iff_eq]; exact hx
    have H6 := Lib.hid h6; have H4 := Lib.hid h4
    clear h4 h6 hx
    go_enter Tryz.func29, Tryz.ntmps29
    go_wp2_with fail
    clear m0 m1 m2 m3 m4 m5 n0 n1 n2 n3 n4 n5
    generalize hW1 : (w.alloc (.cells #[.int .i64 id, .bool ans, .int .i64 code, .string x1, .int .i64 kd, .slice A1 recs.length c1] 39)).alloc (.cells #[.int .i64 id, .bool ans, .int .i64 code, .string x2, .int .i64 kd, .slice A2 recs'.length c2] 39) = W1 at *
    clear hW1
    go_loopw [50] (fun u wr => ∃ k : Nat, k ≤ recs.length ∧ u = .int .i64 (k : Int) ∧ Below W1.heap.size W1 wr ∧ ∀ j, j < k → recs[j]? = recs'[j]?) (fun u _ => recs.length - (Go.RowKit.intOf u).toNat)
    case atStart => exact ⟨0, by omega, rfl, Below.refl _ _, fun j h => by omega⟩
    case round =>
      obtain ⟨k, hk, rfl, hbr, hin⟩ := hrel
      have HIn := Lib.hid hin; clear hin
      have HBr := below_call HB.out hbr
      have hl6 := H6.out
      by_cases hlt : k < recs.length
      · have hlt2 : k < recs'.length := by omega
        have hkl : decide ((k : Int) < (recs.length : Int)) = true := decide_eq_true (by omega)
        have hk1 : (k : Int) < (recs.length : Int) := by omega
        have hk2 : (k : Int) < (recs'.length : Int) := by omega
        have hk0 : (0 : Int) ≤ (k : Int) := by omega
        obtain ⟨g, hA, hlo, d0, d1, d2, d3, d4⟩ := (HR1.out.below hbr).at hlt
        obtain ⟨g', hA', hlo', f0, f1, f2, f3, f4⟩ := (HR2.out.below hbr).at hlt2
        subst hA; subst hA'
        have hlg : g < wr.heap.size := by
          rcases Nat.lt_or_ge g wr.heap.size with q | q
          · exact q
          · simp [World.cell?, Array.getElem?_eq_none q] at d0
        have hlg' : g' < wr.heap.size := by
          rcases Nat.lt_or_ge g' wr.heap.size with q | q
          · exact q
          · simp [World.cell?, Array.getElem?_eq_none q] at f0
        have HG1 : Hid (recs[k]? = some recs[k]) := Lib.hid (List.getElem?_eq_getElem hlt)
        have HG2 : Hid (recs'[k]? = some recs'[k]) := Lib.hid (List.getElem?_eq_getElem hlt2)
        have hq := eqRec recs[k] recs'[k]
        generalize recs[k] = r at *
        generalize recs'[k] = r' at *
        have hn5 := (cell_of_block (k := 5) (bblock hbr Hm2.out) rfl).1
        by_cases hrr : r = r'
        · have HQ := Lib.hid hrr
          rw [decide_eq_true hrr] at hq
          clear hrr
          go_upto_region 8 with fail
          have HZf := Lib.hid (alloc_new wr (.cells #[.string ⟨r.nm.toArray⟩, .int .i64 r.kd, .int .i64 r.ttl, .int .i64 r.addr, .string ⟨r.dst.toArray⟩] 92))
          have hbz := (Below.refl wr.heap.size wr).alloc (Nat.le_refl _) (.cells #[.string ⟨r.nm.toArray⟩, .int .i64 r.kd, .int .i64 r.ttl, .int .i64 r.addr, .string ⟨r.dst.toArray⟩] 92)
          have hbz2 := below_call hbr hbz
          have HBz := below_call HBr hbz
          have z5 := bcell hbz hn5
          have y0 := bcell hbz f0; have y1 := bcell hbz f1; have y2 := bcell hbz f2; have y3 := bcell hbz f3; have y4 := bcell hbz f4
          generalize wr.alloc (.cells #[.string ⟨r.nm.toArray⟩, .int .i64 r.kd, .int .i64 r.ttl, .int .i64 r.addr, .string ⟨r.dst.toArray⟩] 92) = wz at *
          obtain ⟨⟨t0, t1, t2, t3, t4⟩, -⟩ := cells5 HZf.out
          clear d0 d1 d2 d3 d4 f0 f1 f2 f3 f4 hbz
          go_quiet (fail)
          go_wp2_with fail
          refine ⟨⟨k + 1, by omega, by go_num, ⟨hbz2.os, hbz2.tape, hbz2.output, hbz2.size, hbz2.block⟩, fun j h => ?_⟩, by simp [Go.RowKit.intOf]; omega⟩
          by_cases e : j = k
          · subst e; rw [HG1.out, HG2.out, HQ.out]
          · exact HIn.out j (by omega)
        · have HQ := Lib.hid hrr
          rw [decide_eq_false hrr] at hq
          clear hrr
          go_upto_region 8 with fail
          have HZf := Lib.hid (alloc_new wr (.cells #[.string ⟨r.nm.toArray⟩, .int .i64 r.kd, .int .i64 r.ttl, .int .i64 r.addr, .string ⟨r.dst.toArray⟩] 92))
          have hbz := (Below.refl wr.heap.size wr).alloc (Nat.le_refl _) (.cells #[.string ⟨r.nm.toArray⟩, .int .i64 r.kd, .int .i64 r.ttl, .int .i64 r.addr, .string ⟨r.dst.toArray⟩] 92)
          have hbz2 := below_call hbr hbz
          have HBz := below_call HBr hbz
          have z5 := bcell hbz hn5
          have y0 := bcell hbz f0; have y1 := bcell hbz f1; have y2 := bcell hbz f2; have y3 := bcell hbz f3; have y4 := bcell hbz f4
          generalize wr.alloc (.cells #[.string ⟨r.nm.toArray⟩, .int .i64 r.kd, .int .i64 r.ttl, .int .i64 r.addr, .string ⟨r.dst.toArray⟩] 92) = wz at *
          obtain ⟨⟨t0, t1, t2, t3, t4⟩, -⟩ := cells5 HZf.out
          clear d0 d1 d2 d3 d4 f0 f1 f2 f3 f4 hbz
          go_quiet (fail)
          go_wp2_with fail
          have HF : Hid (dd = false) := Lib.hid (by
            rw [← HDD.out]
            refine decide_eq_false fun q => ?_
            have q2 := (hD.out.1 q).2
            have q3 := HG1.out
            rw [q2, HG2.out] at q3
            exact HQ.out (Option.some.inj q3).symm)
          go_ret
          exact HP.out _ _ (by rw [HF.out]) ⟨HBz.os, HBz.tape, HBz.output, HBz.size, HBz.block⟩
      · have hkl : decide ((k : Int) < (recs.length : Int)) = false := decide_eq_false (by omega)
        have hall : recs = recs' := by
          apply List.ext_getElem?
          intro j
          by_cases hj : j < recs.length
          · exact HIn.out j (by omega)
          · rw [List.getElem?_eq_none (by omega), List.getElem?_eq_none (by omega)]
        have HT : Hid (dd = true) := Lib.hid (by rw [← HDD.out]; exact decide_eq_true (hD.out.2 ⟨⟨by first | trivial | rfl, by first | trivial | rfl, by first | trivial | rfl, H4.out, by first | trivial | rfl, H6.out⟩, hall⟩))
        go_wp2_with fail
        go_ret
        exact HP.out _ _ (by rw [HT.out]) HBr
  · have HN : Hid (dd = false) := Lib.hid (by rw [← HDD.out]; exact decide_eq_false fun q => h (hD.out.1 q).1)
    have HH := Lib.hid h; clear h
    go_enter Tryz.func29, Tryz.ntmps29
    go_wp2_with fail
    all_goals (try subst_vars)
    all_goals first
      | (go_ret; exact HP.out _ _ (by first | rfl | exact HN.out.symm) HB.out)
      | (exfalso; exact HH.out ⟨by first | trivial | rfl | assumption | exact bne_eq_false_iff_eq.1 ‹_›, by first | trivial | rfl | assumption | exact bne_eq_false_iff_eq.1 ‹_›, by first | trivial | rfl | assumption | exact bne_eq_false_iff_eq.1 ‹_›, E1.out.1 (by first | trivial | rfl | assumption | exact bne_eq_false_iff_eq.1 ‹_›), by first | trivial | rfl | assumption | exact bne_eq_false_iff_eq.1 ‹_›, by have h6 := bne_eq_false_iff_eq.1 (‹((recs.length : Int) != (recs'.length : Int)) = false›); omega⟩)
end Go.Proofs.YtmgjcjacoegocaaGreatDoor.Dn
