/-
  Routing: Lookup at one interface (several texts in one).
-/
import Derived.Test.YtmgjcjacoegocaaGreatDoorRows
import Derived.Test.YtmgjcjacoegocaaGreatDoorBase1
import Derived.WalkMore
import Derived.BigQuiet
import Derived.Deep.QuietTactic
import Derived.Deep.DeepCutAuto
import Derived.RegionTactic
import Derived.LoopTactic
import Derived.WalkKit
import Derived.IntWalk
import Derived.Deep.Cut
import Derived.Deep.RegionWith
import Derived.Deep.RegionHeld3
import Derived.Test.YtmgjcjacoegocaaGreatDoorRange2
import Derived.OwnWalkIn
import Derived.TacticsInMore
import Derived.LoopNIn
import Derived.LoopIn
import Derived.Shelf.Abstract
import Derived.Shelf.RegionOpen
import Derived.Stop.RegionWithIn
import Derived.Test.YtmgjcjacoegocaaGreatDoorRange
import Derived.Test.YtmgjcjacoegocaaGreatDoorRound
import Derived.Laws.EntriesVeiled
namespace Go.Proofs.YtmgjcjacoegocaaGreatDoor.Rt
set_option maxRecDepth 100000
open Go.RowKit Go.Proofs.YtmgjcjacoegocaaGreatDoor.Wire

theorem below_drewN {n : Nat} {a w : World} (h : Below n a w) (k : Nat) : Below n a (w.drewN k) := ⟨h.os, h.tape, h.output, h.size, h.block⟩
def maskOf (b : Int) : Int := if b = 0 then 4294967295 else 255
def NetOk (a b : Int) : Prop := (a = 167772160 ∧ b = 24) ∨ (a = 0 ∧ b = 0)
def insB (a b x : Int) : Bool := bits .andNot .i64 x (maskOf b) == a
theorem valid_any (a : Int) (w : World) : Calls Tryz.prog 86 #[.int .i64 a] w fun e w' => e = .returned (.bool (decide (0 ≤ a ∧ a ≤ 4294967295))) ∧ w = w' := by
  go_enter Tryz.func86, Tryz.ntmps86
  go_wp2
  all_goals
    go_ret
    refine ⟨ret_bool ?_, rfl⟩
  all_goals
    first
      | (refine (decide_eq_false (fun h => ?_)).symm; omega)
      | (refine (decide_eq_true ?_).symm; omega)
      | (exact decide_eq_decide.2 (by omega))
      | (rw [Bool.eq_iff_iff]; simp; omega)
theorem host_any (a b : Int) (w : World) : Calls Tryz.prog 111 #[.agg #[.int .i64 a, .int .i64 b]] w fun e w' => e = .returned (.func (Fn.func 126) #[] #[.pointer (some ⟨w.heap.size, 0, none⟩)]) ∧ w' = w.alloc (.cells #[.int .i64 a, .int .i64 b] 28) := by
  go_enter Tryz.func111, Tryz.ntmps111
  go_wp2_with fail
  go_ret
  exact ⟨rfl, rfl⟩
theorem host1_any (B : Nat) (a b : Int) (w : World) (h : w.heap[B]? = some (.cells #[.int .i64 a, .int .i64 b] 28 (0, 0))) (hn : NetOk a b) : Calls Tryz.prog 126 #[.pointer (some ⟨B, 0, none⟩)] w fun e w' => e = .returned (.int .i64 (maskOf b)) ∧ w' = w := by
  have c1 := (cell_of_block (k := 1) h rfl).1
  rcases hn with ⟨rfl, rfl⟩ | ⟨rfl, rfl⟩
  all_goals
    go_enter Tryz.func126, Tryz.ntmps126
    go_wp2_with fail
    go_ret
    exact ⟨rfl, rfl⟩
set_option maxHeartbeats 2000000 in
theorem validPrefix_any (a b : Int) (w : World) (hn : NetOk a b) : Calls Tryz.prog 110 #[.agg #[.int .i64 a, .int .i64 b]] w fun e w' => e = .returned (.bool true) ∧ Below w.heap.size w w' := by
  have HN := Lib.hid hn
  have hv : decide (0 ≤ a ∧ a ≤ 4294967295) = true := decide_eq_true (by unfold NetOk at hn; omega)
  have HV := Lib.hid fun W => valid_any a W; rw [hv] at HV
  have b1 : decide (b < 0) = false := decide_eq_false (by unfold NetOk at hn; omega)
  have b2 : decide (32 < b) = false := decide_eq_false (by unfold NetOk at hn; omega)
  have b3 : (bits .and .i64 a (maskOf b) == 0) = true := by rcases hn with ⟨rfl, rfl⟩ | ⟨rfl, rfl⟩ <;> decide
  have H0 := Lib.hid (alloc_new w (.cells #[.int .i64 a, .int .i64 b] 28))
  have HB := below_alloc (o := .cells #[.int .i64 a, .int .i64 b] 28) (Below.refl w.heap.size w)
  clear hn hv
  go_enter Tryz.func110, Tryz.ntmps110
  have c0 := (cell_of_block (k := 0) H0.out rfl).1; have c1 := (cell_of_block (k := 1) H0.out rfl).1
  go_wp2_with (refine (HV.out _).mono ?_; rintro e w' ⟨rfl, rfl⟩)
  refine (host_any a b _).mono ?_
  rintro e w' ⟨rfl, rfl⟩
  have H1 := Lib.hid (alloc_new' (w.alloc (.cells #[.int .i64 a, .int .i64 b] 28)) (.cells #[.int .i64 a, .int .i64 b] 28) (w.heap.size + 1) (by simp))
  have HB1 := below_alloc (o := .cells #[.int .i64 a, .int .i64 b] 28) HB
  have d0 := (cell_of_block (k := 0) (block_alloc H0.out (.cells #[.int .i64 a, .int .i64 b] 28)) rfl).1
  clear c0 c1 H0 HB
  generalize (w.alloc (.cells #[.int .i64 a, .int .i64 b] 28)).alloc (.cells #[.int .i64 a, .int .i64 b] 28) = w2 at *
  go_upto_region 4 with fail
  go_quiet ((go_at_call 126; exact Calls.quiet_of_same (host1_any _ a b _ (by exact H1.out) HN.out)))
  go_wp2_with fail
  go_ret
  exact ⟨rfl, below_drewN HB1 nq⟩
set_option maxHeartbeats 2000000 in
theorem contains_any (a b x : Int) (r : Bool) (w : World) (hn : NetOk a b) (hx : 0 ≤ x ∧ x ≤ 4294967295) (hr : insB a b x = r) : Calls Tryz.prog 84 #[.agg #[.int .i64 a, .int .i64 b], .int .i64 x] w fun e w' => e = .returned (.bool r) ∧ Below w.heap.size w w' := by
  have HN := Lib.hid hn
  have hv : decide (0 ≤ x ∧ x ≤ 4294967295) = true := decide_eq_true hx
  have HV := Lib.hid fun W => valid_any x W; rw [hv] at HV
  have HP := Lib.hid fun W => validPrefix_any a b W hn
  have b3 : (bits .andNot .i64 x (maskOf b) == a) = r := hr
  have H0 := Lib.hid (alloc_new w (.cells #[.int .i64 a, .int .i64 b] 28))
  have HB := below_alloc (o := .cells #[.int .i64 a, .int .i64 b] 28) (Below.refl w.heap.size w)
  clear hn hv hx hr
  go_enter Tryz.func84, Tryz.ntmps84
  have c0 := (cell_of_block (k := 0) H0.out rfl).1; have c1 := (cell_of_block (k := 1) H0.out rfl).1
  go_wp2_with ((with_reducible refine (HP.out _).mono ?_); rintro e w1 ⟨rfl, hb⟩)
  have H0' := Lib.hid (bblock hb H0.out); clear H0; have H0 := H0'; clear H0'
  have HB' := below_call HB hb; clear HB hb c0 c1; have HB := HB'; clear HB'
  have hz := HB.size
  have hlt := blk_lt H0.out
  have c0 := (cell_of_block (k := 0) H0.out rfl).1; have c1 := (cell_of_block (k := 1) H0.out rfl).1
  go_wp2_with ((with_reducible refine (HV.out _).mono ?_); rintro e w' ⟨rfl, rfl⟩)
  refine (host_any a b _).mono ?_
  rintro e w' ⟨rfl, rfl⟩
  have H1 := Lib.hid (alloc_new w1 (.cells #[.int .i64 a, .int .i64 b] 28))
  have HB1 := below_alloc (o := .cells #[.int .i64 a, .int .i64 b] 28) HB
  have d0 := (cell_of_block (k := 0) (block_alloc H0.out (.cells #[.int .i64 a, .int .i64 b] 28)) rfl).1
  clear c0 c1 H0 HB
  generalize w1.alloc (.cells #[.int .i64 a, .int .i64 b] 28) = w2 at *
  go_upto_region 4 with fail
  go_quiet ((go_at_call 126; exact Calls.quiet_of_same (host1_any _ a b _ (by exact H1.out) HN.out)))
  go_wp2_with fail
  go_ret
  exact ⟨rfl, below_drewN HB1 nq⟩
end Go.Proofs.YtmgjcjacoegocaaGreatDoor.Rt

namespace Go.Proofs.YtmgjcjacoegocaaGreatDoor.Rt
set_option maxRecDepth 100000
open Go.RowKit Go.Proofs.YtmgjcjacoegocaaGreatDoor.Wire

theorem uni_any (a : Int) (w : World) : Calls Tryz.prog 31 #[.int .i64 a] w fun e w' => e = .returned (.bool (decide (1 ≤ a ∧ a < 4294967295))) ∧ w = w' := by
  go_enter Tryz.func31, Tryz.ntmps31
  go_wp2
  all_goals
    go_ret
    refine ⟨ret_bool ?_, rfl⟩
  all_goals
    first
      | (refine (decide_eq_false (fun h => ?_)).symm; omega)
      | (refine (decide_eq_true ?_).symm; omega)
      | (exact decide_eq_decide.2 (by omega))
      | (rw [Bool.eq_iff_iff]; simp; omega)
/-- the block of the one interface -/
def FB (W : World) (g : Nat) (mac mtu : Int) : Prop := W.heap[g]? = some (.cells #[.int .i64 mac, .int .i64 167772161, .int .i64 167772160, .int .i64 24, .int .i64 mtu] 30 (0, 0))
/-- the block of the one route -/
def RB (W : World) (h : Nat) : Prop := W.heap[h]? = some (.cells #[.int .i64 0, .int .i64 0, .int .i64 167772414, .int .i64 0] 70 (0, 0))
theorem FB.below {W W' : World} {g : Nat} {mac mtu : Int} (h : FB W g mac mtu) (hb : Below W.heap.size W W') : FB W' g mac mtu := bblock hb h
theorem RB.below {W W' : World} {g : Nat} (h : RB W g) (hb : Below W.heap.size W W') : RB W' g := bblock hb h
set_option maxHeartbeats 2000000 in
theorem isLocal0 (g c : Nat) (x : Int) (w : World) : Calls Tryz.prog 80 #[.slice (some ⟨g, 0, none⟩) 0 c, .int .i64 x] w fun e w' => e = .returned (.tuple #[.int .i64 0, .bool false]) ∧ Below w.heap.size w w' := by
  go_enter Tryz.func80, Tryz.ntmps80
  go_wp2_with fail
  go_loopw [10] (fun i wr => i = .int .i64 0 ∧ wr = w) (fun _ _ => 0)
  case atStart => exact ⟨rfl, rfl⟩
  case round =>
    obtain ⟨rfl, rfl⟩ := hrel
    go_wp2_with fail
    go_ret2
    exact ⟨rfl, Below.refl _ _⟩
set_option maxHeartbeats 2000000 in
theorem isLocal1 (g c : Nat) (x mac mtu : Int) (w : World) (hF : FB w g mac mtu) (hx : ((167772161 : Int) == x) = false) : Calls Tryz.prog 80 #[.slice (some ⟨g, 0, none⟩) 1 c, .int .i64 x] w fun e w' => e = .returned (.tuple #[.int .i64 0, .bool false]) ∧ Below w.heap.size w w' := by
  have HF := Lib.hid hF; clear hF
  go_enter Tryz.func80, Tryz.ntmps80
  go_wp2_with fail
  go_loopw [10] (fun i wr => ∃ k : Nat, k ≤ 1 ∧ i = .int .i64 (k : Int) ∧ Below w.heap.size w wr) (fun i _ => 1 - (intOf i).toNat)
  case atStart => exact ⟨0, by omega, rfl, Below.refl _ _⟩
  case round =>
    obtain ⟨k, hk, rfl, hB⟩ := hrel
    have hf : FB wr g mac mtu := bblock hB HF.out
    have hk2 : k = 0 ∨ k = 1 := by omega
    rcases hk2 with rfl | rfl
    · have c0 := (cell_of_block (k := 0) hf rfl).1; have c1 := (cell_of_block (k := 1) hf rfl).1; have c2 := (cell_of_block (k := 2) hf rfl).1; have c3 := (cell_of_block (k := 3) hf rfl).1; have c4 := (cell_of_block (k := 4) hf rfl).1
      go_wp2_with fail
      go_roundw
      case rel => exact ⟨1, by omega, by go_num, below_alloc hB⟩
      case measure => simp [intOf]
    · go_wp2_with fail
      go_ret2
      exact ⟨rfl, hB⟩
theorem own_in : insB 167772160 24 167772161 = true := by decide
theorem via_in : insB 167772160 24 167772414 = true := by decide
set_option maxHeartbeats 2000000 in
theorem validIf_any (mac mtu : Int) (w : World) (hm : 1 ≤ mac ∧ mac ≤ 65534) (ht : 68 ≤ mtu ∧ mtu ≤ 1024) : Calls Tryz.prog 81 #[.agg #[.int .i64 mac, .int .i64 167772161, .int .i64 167772160, .int .i64 24, .int .i64 mtu]] w fun e w' => e = .returned (.bool true) ∧ Below w.heap.size w w' := by
  obtain ⟨m1, m2⟩ := hm
  obtain ⟨t1, t2⟩ := ht
  have HU := Lib.hid fun W => uni_any 167772161 W; rw [show decide ((1 : Int) ≤ 167772161 ∧ (167772161 : Int) < 4294967295) = true from by decide] at HU
  have HP := Lib.hid fun W => validPrefix_any 167772160 24 W (.inl ⟨rfl, rfl⟩)
  have HC := Lib.hid fun W => contains_any 167772160 24 167772161 true W (.inl ⟨rfl, rfl⟩) (by omega) own_in
  have H0 : FB (w.alloc (.cells #[.int .i64 mac, .int .i64 167772161, .int .i64 167772160, .int .i64 24, .int .i64 mtu] 30)) w.heap.size mac mtu := alloc_new w _
  have HB := below_alloc (o := .cells #[.int .i64 mac, .int .i64 167772161, .int .i64 167772160, .int .i64 24, .int .i64 mtu] 30) (Below.refl w.heap.size w)
  have HF := Lib.hid H0; clear H0
  go_enter Tryz.func81, Tryz.ntmps81
  have c0 := (cell_of_block (k := 0) HF.out rfl).1; have c1 := (cell_of_block (k := 1) HF.out rfl).1; have c2 := (cell_of_block (k := 2) HF.out rfl).1; have c3 := (cell_of_block (k := 3) HF.out rfl).1; have c4 := (cell_of_block (k := 4) HF.out rfl).1
  go_wp2_with ((with_reducible refine (HU.out _).mono ?_); rintro e w' ⟨rfl, rfl⟩)
  with_reducible refine (HP.out _).mono ?_
  rintro e w1 ⟨rfl, hb⟩
  have HF' := Lib.hid (HF.out.below hb); clear HF; have HF := HF'; clear HF'
  have HB' := below_call HB hb; clear HB hb c0 c1 c2 c3 c4; have HB := HB'; clear HB'
  have hz := HB.size
  have hlt := blk_lt HF.out
  have c1 := (cell_of_block (k := 1) HF.out rfl).1; have c2 := (cell_of_block (k := 2) HF.out rfl).1; have c3 := (cell_of_block (k := 3) HF.out rfl).1; have c4 := (cell_of_block (k := 4) HF.out rfl).1
  go_wp2_with fail
  with_reducible refine (HC.out _).mono ?_
  rintro e w2 ⟨rfl, hb⟩
  have HF' := Lib.hid (HF.out.below hb); clear HF; have HF := HF'; clear HF'
  have HB' := below_call HB hb; clear HB hb c1 c2 c3 c4; have HB := HB'; clear HB'
  have hz := HB.size
  have hlt := blk_lt HF.out
  have c4 := (cell_of_block (k := 4) HF.out rfl).1
  go_wp2_with fail
  go_ret
  exact ⟨rfl, HB⟩
end Go.Proofs.YtmgjcjacoegocaaGreatDoor.Rt

namespace Go.Proofs.YtmgjcjacoegocaaGreatDoor.Rt
set_option maxRecDepth 100000
open Go.RowKit Go.Proofs.YtmgjcjacoegocaaGreatDoor.Wire

set_option maxHeartbeats 4000000 in
theorem validRt_any (g c : Nat) (mac mtu : Int) (w : World) (hF : FB w g mac mtu) : Calls Tryz.prog 82 #[.slice (some ⟨g, 0, none⟩) 1 c, .agg #[.int .i64 0, .int .i64 0, .int .i64 167772414, .int .i64 0]] w fun e w' => e = .returned (.bool true) ∧ Below w.heap.size w w' := by
  have HU : Hid (∀ W, Calls Tryz.prog 31 #[.int .i64 167772414] W fun e w' => e = .returned (.bool true) ∧ Below W.heap.size W w') := Lib.hid fun W => (uni_any 167772414 W).mono fun e w' h => ⟨h.1, h.2 ▸ Below.refl _ _⟩
  have HP := Lib.hid fun W => validPrefix_any 0 0 W (.inr ⟨rfl, rfl⟩)
  have HC := Lib.hid fun W => contains_any 167772160 24 167772414 true W (.inl ⟨rfl, rfl⟩) (by omega) via_in
  have HL := Lib.hid fun W (hf : FB W g mac mtu) => isLocal1 g c 167772414 mac mtu W hf (by decide)
  have Hf := Lib.hid hF; clear hF
  unfold FB at Hf
  have HB := Below.refl w.heap.size w
  have Hr := Lib.hid (alloc_new' w (.cells #[.int .i64 0, .int .i64 0, .int .i64 167772414, .int .i64 0] 70) (w.heap.size) (by simp))
  have Hf' := Lib.hid (block_alloc Hf.out (.cells #[.int .i64 0, .int .i64 0, .int .i64 167772414, .int .i64 0] 70)); clear Hf; have Hf := Hf'; clear Hf'
  have HB' := below_alloc (o := .cells #[.int .i64 0, .int .i64 0, .int .i64 167772414, .int .i64 0] 70) HB; clear HB; have HB := HB'; clear HB'
  go_enter Tryz.func82, Tryz.ntmps82
  have Sr := cells4 Hr.out
  obtain ⟨⟨qr0, qr1, qr2, qr3⟩, zr0, zr1, zr2, zr3⟩ := Sr
  have lt_r := blk_lt Hr.out
  go_wp2_with fail
  refine (HP.out _).mono ?_
  rintro e w1 ⟨rfl, hb⟩
  clear qr0 zr0 qr1 zr1 qr2 zr2 qr3 zr3
  have Hf' := Lib.hid (bblock hb Hf.out); clear Hf; have Hf := Hf'; clear Hf'
  have Hr' := Lib.hid (bblock hb Hr.out); clear Hr; have Hr := Hr'; clear Hr'
  have HB' := below_call HB hb; clear HB hb; have HB := HB'; clear HB'; have hz1 := HB.size
  have lt_f_1 := blk_lt Hf.out
  have lt_r_1 := blk_lt Hr.out
  have Sr := cells4 Hr.out
  obtain ⟨⟨qr0, qr1, qr2, qr3⟩, zr0, zr1, zr2, zr3⟩ := Sr
  have lt_r := blk_lt Hr.out
  go_wp2_with fail
  refine (HL.out _ (by exact Hf.out)).mono ?_
  rintro e w2 ⟨rfl, hb⟩
  clear qr0 zr0 qr1 zr1 qr2 zr2 qr3 zr3
  have Hf' := Lib.hid (bblock hb Hf.out); clear Hf; have Hf := Hf'; clear Hf'
  have Hr' := Lib.hid (bblock hb Hr.out); clear Hr; have Hr := Hr'; clear Hr'
  have HB' := below_call HB hb; clear HB hb; have HB := HB'; clear HB'; have hz2 := HB.size
  have lt_f_2 := blk_lt Hf.out
  have lt_r_2 := blk_lt Hr.out
  go_upto_region 8 with fail
  have HR := Below.refl w2.heap.size w2
  have gr2 : Hid (w2.cell? ⟨w.heap.size, 2, none⟩ = some (.int .i64 167772414)) := Lib.hid (cell_of_block (k := 2) Hr.out rfl).1
  have gr3 : Hid (w2.cell? ⟨w.heap.size, 3, none⟩ = some (.int .i64 0)) := Lib.hid (cell_of_block (k := 3) Hr.out rfl).1
  have gf2 : Hid (w2.cell? ⟨g, 2, none⟩ = some (.int .i64 167772160)) := Lib.hid (cell_of_block (k := 2) Hf.out rfl).1
  have gf3 : Hid (w2.cell? ⟨g, 3, none⟩ = some (.int .i64 24)) := Lib.hid (cell_of_block (k := 3) Hf.out rfl).1
  go_region_held3 (fun w' => w'.cell? ⟨w.heap.size, 2, none⟩ = some (.int .i64 167772414) ∧ w'.cell? ⟨w.heap.size, 3, none⟩ = some (.int .i64 0) ∧ w'.cell? ⟨g, 2, none⟩ = some (.int .i64 167772160) ∧ w'.cell? ⟨g, 3, none⟩ = some (.int .i64 24) ∧ Below w2.heap.size w2 w') (first | with_reducible exact ⟨bcell (hRv2.out) gr2.out, bcell (hRv2.out) gr3.out, bcell (hRv2.out) gf2.out, bcell (hRv2.out) gf3.out, hRv2.out⟩ | with_reducible exact ⟨bcell (hRv1.out) gr2.out, bcell (hRv1.out) gr3.out, bcell (hRv1.out) gf2.out, bcell (hRv1.out) gf3.out, hRv1.out⟩ | exact ⟨gr2.out, gr3.out, gf2.out, gf3.out, HR.drew⟩)
    (first | (go_at_call 84; have _t := hRv1; clear _t; refine (HC.out _).mono ?_; rintro e v2 ⟨rfl, hbv2⟩; have hRv2 := Lib.hid (below_call hRv1.out hbv2)) | (go_at_call 31; refine (HU.out _).mono ?_; rintro e v1 ⟨rfl, hbv1⟩; have hRv1 := Lib.hid (below_call HR.drew hbv1)))
  have hb := hRv2.out
  clear HR hRv1 hbv1 hRv2 hbv2 gr2 gr3 gf2 gf3
  have Hf' := Lib.hid (bblock hb Hf.out); clear Hf; have Hf := Hf'; clear Hf'
  have Hr' := Lib.hid (bblock hb Hr.out); clear Hr; have Hr := Hr'; clear Hr'
  have HB' := below_call HB hb; clear HB hb; have HB := HB'; clear HB'; have hz := HB.size
  go_wp2_with fail
  go_ret
  exact ⟨rfl, HB⟩
set_option maxHeartbeats 8000000 in
theorem check1 (g c : Nat) (mac mtu : Int) (w : World) (hm : 1 ≤ mac ∧ mac ≤ 65534) (ht : 68 ≤ mtu ∧ mtu ≤ 1024) (hF : FB w g mac mtu) : Calls Tryz.prog 30 #[.slice (some ⟨g, 0, none⟩) 1 c, .slice none 0 0] w fun e w' => e = .returned (.int .i64 0) ∧ Below w.heap.size w w' := by
  have HV := Lib.hid fun W => validIf_any mac mtu W hm ht
  have HL := Lib.hid fun (c : Nat) (x : Int) W => isLocal0 g c x W
  have HVR := Lib.hid fun c W (hf : FB W g mac mtu) => validRt_any g c mac mtu W hf
  have Hf := Lib.hid hF; clear hF
  unfold FB at Hf
  have HB := Below.refl w.heap.size w
  go_enter Tryz.func30, Tryz.ntmps30
  go_wp2_with fail
  go_loopw [26] (fun i wr => ∃ k : Nat, k ≤ 1 ∧ i = .int .i64 (k : Int) ∧ Below w.heap.size w wr) (fun i _ => 1 - (intOf i).toNat)
  case atStart => exact ⟨0, by omega, rfl, HB⟩
  case round =>
    obtain ⟨k, hk, rfl, hB⟩ := hrel
    obtain ⟨wo, rfl⟩ : ∃ wo : World, wo = wr := ⟨_, rfl⟩
    clear HB
    have Hf' := Lib.hid (bblock hB Hf.out); clear Hf; have Hf := Hf'; clear Hf'
    have HB := hB; clear hB
    have hk2 : k = 0 ∨ k = 1 := by omega
    rcases hk2 with rfl | rfl
    · skip
      have Sf := cells5 Hf.out
      obtain ⟨⟨qf0, qf1, qf2, qf3, qf4⟩, zf0, zf1, zf2, zf3, zf4⟩ := Sf
      have lt_f := blk_lt Hf.out
      have lt_w := HB.size
      go_upto_region 6 with fail
      clear qf0 zf0 qf1 zf1 qf2 zf2 qf3 zf3 qf4 zf4
      have Hx := Lib.hid (alloc_new' wo (.cells #[.int .i64 mac, .int .i64 167772161, .int .i64 167772160, .int .i64 24, .int .i64 mtu] 30) (wo.heap.size) (by simp))
      have Hf' := Lib.hid (block_alloc Hf.out (.cells #[.int .i64 mac, .int .i64 167772161, .int .i64 167772160, .int .i64 24, .int .i64 mtu] 30)); clear Hf; have Hf := Hf'; clear Hf'
      have HB' := below_alloc (o := .cells #[.int .i64 mac, .int .i64 167772161, .int .i64 167772160, .int .i64 24, .int .i64 mtu] 30) HB; clear HB; have HB := HB'; clear HB'
      have HR := Below.refl (wo.alloc (.cells #[.int .i64 mac, .int .i64 167772161, .int .i64 167772160, .int .i64 24, .int .i64 mtu] 30)).heap.size (wo.alloc (.cells #[.int .i64 mac, .int .i64 167772161, .int .i64 167772160, .int .i64 24, .int .i64 mtu] 30))
      have gx1 : Hid ((wo.alloc (.cells #[.int .i64 mac, .int .i64 167772161, .int .i64 167772160, .int .i64 24, .int .i64 mtu] 30)).cell? ⟨wo.heap.size, 1, none⟩ = some (.int .i64 167772161)) := Lib.hid (cell_of_block (k := 1) Hx.out rfl).1
      go_region_held3 (fun w' => w'.cell? ⟨wo.heap.size, 1, none⟩ = some (.int .i64 167772161) ∧ Below (wo.alloc (.cells #[.int .i64 mac, .int .i64 167772161, .int .i64 167772160, .int .i64 24, .int .i64 mtu] 30)).heap.size (wo.alloc (.cells #[.int .i64 mac, .int .i64 167772161, .int .i64 167772160, .int .i64 24, .int .i64 mtu] 30)) w') (first | with_reducible exact ⟨bcell (hRu1.out) gx1.out, hRu1.out⟩ | exact ⟨gx1.out, HR.drew⟩)
        ((go_at_call 80; refine (HL.out _ _ _).mono ?_; rintro e u1 ⟨rfl, hbu1⟩; have hRu1 := Lib.hid (below_call HR.drew hbu1)))
      have hb := hRu1.out
      clear HR hRu1 hbu1 gx1
      have Hf' := Lib.hid (bblock hb Hf.out); clear Hf; have Hf := Hf'; clear Hf'
      have Hx' := Lib.hid (bblock hb Hx.out); clear Hx; have Hx := Hx'; clear Hx'
      have HB' := below_call HB hb; clear HB hb; have HB := HB'; clear HB'; have hz := HB.size
      have Sx := cells5 Hx.out
      obtain ⟨⟨qx0, qx1, qx2, qx3, qx4⟩, zx0, zx1, zx2, zx3, zx4⟩ := Sx
      have lt_x := blk_lt Hx.out
      go_wp2_with fail
      refine (HV.out _).mono ?_
      rintro e w1 ⟨rfl, hb⟩
      clear qx0 zx0 qx1 zx1 qx2 zx2 qx3 zx3 qx4 zx4
      have Hf' := Lib.hid (bblock hb Hf.out); clear Hf; have Hf := Hf'; clear Hf'
      have Hx' := Lib.hid (bblock hb Hx.out); clear Hx; have Hx := Hx'; clear Hx'
      have HB' := below_call HB hb; clear HB hb; have HB := HB'; clear HB'; have hz1 := HB.size
      have lt_f_1 := blk_lt Hf.out
      have lt_x_1 := blk_lt Hx.out
      go_wp2_with fail
      go_roundw
      case rel => exact ⟨1, by omega, by go_num, HB⟩
      case measure => simp [intOf]
    · skip
      go_wp2_with fail
      go_loopw [49] (fun i wr => i = .int .i64 0 ∧ wr = wo) (fun _ _ => 0)
      case atStart => exact ⟨rfl, rfl⟩
      case round =>
        obtain ⟨rfl, rfl⟩ := hrel
        go_wp2_with fail
        go_ret
        exact ⟨rfl, HB⟩
set_option maxHeartbeats 8000000 in
theorem check2 (g c h cr : Nat) (mac mtu : Int) (w : World) (hm : 1 ≤ mac ∧ mac ≤ 65534) (ht : 68 ≤ mtu ∧ mtu ≤ 1024) (hF : FB w g mac mtu) (hR : RB w h) : Calls Tryz.prog 30 #[.slice (some ⟨g, 0, none⟩) 1 c, .slice (some ⟨h, 0, none⟩) 1 cr] w fun e w' => e = .returned (.int .i64 0) ∧ Below w.heap.size w w' := by
  have HV := Lib.hid fun W => validIf_any mac mtu W hm ht
  have HL := Lib.hid fun (c : Nat) (x : Int) W => isLocal0 g c x W
  have HVR := Lib.hid fun c W (hf : FB W g mac mtu) => validRt_any g c mac mtu W hf
  have Hf := Lib.hid hF; clear hF
  unfold FB at Hf
  have Hr := Lib.hid hR; clear hR
  unfold RB at Hr
  have HB := Below.refl w.heap.size w
  go_enter Tryz.func30, Tryz.ntmps30
  go_wp2_with fail
  go_loopw [26] (fun i wr => ∃ k : Nat, k ≤ 1 ∧ i = .int .i64 (k : Int) ∧ Below w.heap.size w wr) (fun i _ => 1 - (intOf i).toNat)
  case atStart => exact ⟨0, by omega, rfl, HB⟩
  case round =>
    obtain ⟨k, hk, rfl, hB⟩ := hrel
    obtain ⟨wo, rfl⟩ : ∃ wo : World, wo = wr := ⟨_, rfl⟩
    clear HB
    have Hf' := Lib.hid (bblock hB Hf.out); clear Hf; have Hf := Hf'; clear Hf'
    have Hr' := Lib.hid (bblock hB Hr.out); clear Hr; have Hr := Hr'; clear Hr'
    have HB := hB; clear hB
    have hk2 : k = 0 ∨ k = 1 := by omega
    rcases hk2 with rfl | rfl
    · skip
      have Sf := cells5 Hf.out
      obtain ⟨⟨qf0, qf1, qf2, qf3, qf4⟩, zf0, zf1, zf2, zf3, zf4⟩ := Sf
      have lt_f := blk_lt Hf.out
      have lt_w := HB.size
      go_upto_region 6 with fail
      clear qf0 zf0 qf1 zf1 qf2 zf2 qf3 zf3 qf4 zf4
      have Hx := Lib.hid (alloc_new' wo (.cells #[.int .i64 mac, .int .i64 167772161, .int .i64 167772160, .int .i64 24, .int .i64 mtu] 30) (wo.heap.size) (by simp))
      have Hf' := Lib.hid (block_alloc Hf.out (.cells #[.int .i64 mac, .int .i64 167772161, .int .i64 167772160, .int .i64 24, .int .i64 mtu] 30)); clear Hf; have Hf := Hf'; clear Hf'
      have Hr' := Lib.hid (block_alloc Hr.out (.cells #[.int .i64 mac, .int .i64 167772161, .int .i64 167772160, .int .i64 24, .int .i64 mtu] 30)); clear Hr; have Hr := Hr'; clear Hr'
      have HB' := below_alloc (o := .cells #[.int .i64 mac, .int .i64 167772161, .int .i64 167772160, .int .i64 24, .int .i64 mtu] 30) HB; clear HB; have HB := HB'; clear HB'
      have HR := Below.refl (wo.alloc (.cells #[.int .i64 mac, .int .i64 167772161, .int .i64 167772160, .int .i64 24, .int .i64 mtu] 30)).heap.size (wo.alloc (.cells #[.int .i64 mac, .int .i64 167772161, .int .i64 167772160, .int .i64 24, .int .i64 mtu] 30))
      have gx1 : Hid ((wo.alloc (.cells #[.int .i64 mac, .int .i64 167772161, .int .i64 167772160, .int .i64 24, .int .i64 mtu] 30)).cell? ⟨wo.heap.size, 1, none⟩ = some (.int .i64 167772161)) := Lib.hid (cell_of_block (k := 1) Hx.out rfl).1
      go_region_held3 (fun w' => w'.cell? ⟨wo.heap.size, 1, none⟩ = some (.int .i64 167772161) ∧ Below (wo.alloc (.cells #[.int .i64 mac, .int .i64 167772161, .int .i64 167772160, .int .i64 24, .int .i64 mtu] 30)).heap.size (wo.alloc (.cells #[.int .i64 mac, .int .i64 167772161, .int .i64 167772160, .int .i64 24, .int .i64 mtu] 30)) w') (first | with_reducible exact ⟨bcell (hRu1.out) gx1.out, hRu1.out⟩ | exact ⟨gx1.out, HR.drew⟩)
        ((go_at_call 80; refine (HL.out _ _ _).mono ?_; rintro e u1 ⟨rfl, hbu1⟩; have hRu1 := Lib.hid (below_call HR.drew hbu1)))
      have hb := hRu1.out
      clear HR hRu1 hbu1 gx1
      have Hf' := Lib.hid (bblock hb Hf.out); clear Hf; have Hf := Hf'; clear Hf'
      have Hr' := Lib.hid (bblock hb Hr.out); clear Hr; have Hr := Hr'; clear Hr'
      have Hx' := Lib.hid (bblock hb Hx.out); clear Hx; have Hx := Hx'; clear Hx'
      have HB' := below_call HB hb; clear HB hb; have HB := HB'; clear HB'; have hz := HB.size
      have Sx := cells5 Hx.out
      obtain ⟨⟨qx0, qx1, qx2, qx3, qx4⟩, zx0, zx1, zx2, zx3, zx4⟩ := Sx
      have lt_x := blk_lt Hx.out
      go_wp2_with fail
      refine (HV.out _).mono ?_
      rintro e w1 ⟨rfl, hb⟩
      clear qx0 zx0 qx1 zx1 qx2 zx2 qx3 zx3 qx4 zx4
      have Hf' := Lib.hid (bblock hb Hf.out); clear Hf; have Hf := Hf'; clear Hf'
      have Hr' := Lib.hid (bblock hb Hr.out); clear Hr; have Hr := Hr'; clear Hr'
      have Hx' := Lib.hid (bblock hb Hx.out); clear Hx; have Hx := Hx'; clear Hx'
      have HB' := below_call HB hb; clear HB hb; have HB := HB'; clear HB'; have hz1 := HB.size
      have lt_f_1 := blk_lt Hf.out
      have lt_r_1 := blk_lt Hr.out
      have lt_x_1 := blk_lt Hx.out
      go_wp2_with fail
      go_roundw
      case rel => exact ⟨1, by omega, by go_num, HB⟩
      case measure => simp [intOf]
    · skip
      go_wp2_with fail
      go_loopw [49] (fun i wr => ∃ k : Nat, k ≤ 1 ∧ i = .int .i64 (k : Int) ∧ FB wr g mac mtu ∧ RB wr h ∧ Below w.heap.size w wr) (fun i _ => 1 - (intOf i).toNat)
      case atStart => exact ⟨0, by omega, rfl, Hf.out, Hr.out, HB⟩
      case round =>
        clear HB Hf Hr
        obtain ⟨k, hk, rfl, hf, hr, HB⟩ := hrel
        obtain ⟨wp, rfl⟩ : ∃ wp : World, wp = wr := ⟨_, rfl⟩
        have Hf := Lib.hid hf; have Hr := Lib.hid hr; clear hf hr; unfold FB at Hf; unfold RB at Hr; have hz := HB.size
        have hk2 : k = 0 ∨ k = 1 := by omega
        rcases hk2 with rfl | rfl
        · skip
          have Sr := cells4 Hr.out
          obtain ⟨⟨qr0, qr1, qr2, qr3⟩, zr0, zr1, zr2, zr3⟩ := Sr
          have lt_r := blk_lt Hr.out
          go_upto_region 13 with fail
          clear qr0 zr0 qr1 zr1 qr2 zr2 qr3 zr3
          have Hy := Lib.hid (alloc_new' wp (.cells #[.int .i64 0, .int .i64 0, .int .i64 167772414, .int .i64 0] 70) (wp.heap.size) (by simp))
          have Hf' := Lib.hid (block_alloc Hf.out (.cells #[.int .i64 0, .int .i64 0, .int .i64 167772414, .int .i64 0] 70)); clear Hf; have Hf := Hf'; clear Hf'
          have Hr' := Lib.hid (block_alloc Hr.out (.cells #[.int .i64 0, .int .i64 0, .int .i64 167772414, .int .i64 0] 70)); clear Hr; have Hr := Hr'; clear Hr'
          have HB' := below_alloc (o := .cells #[.int .i64 0, .int .i64 0, .int .i64 167772414, .int .i64 0] 70) HB; clear HB; have HB := HB'; clear HB'
          have Sy := cells4 Hy.out
          obtain ⟨⟨qy0, qy1, qy2, qy3⟩, zy0, zy1, zy2, zy3⟩ := Sy
          have lt_y := blk_lt Hy.out
          go_wp2_with fail
          refine (HVR.out _ _ (by exact Hf.out)).mono ?_
          rintro e w1 ⟨rfl, hb⟩
          clear qy0 zy0 qy1 zy1 qy2 zy2 qy3 zy3
          have Hf' := Lib.hid (bblock hb Hf.out); clear Hf; have Hf := Hf'; clear Hf'
          have Hr' := Lib.hid (bblock hb Hr.out); clear Hr; have Hr := Hr'; clear Hr'
          have Hy' := Lib.hid (bblock hb Hy.out); clear Hy; have Hy := Hy'; clear Hy'
          have HB' := below_call HB hb; clear HB hb; have HB := HB'; clear HB'; have hz1 := HB.size
          have lt_f_1 := blk_lt Hf.out
          have lt_r_1 := blk_lt Hr.out
          have lt_y_1 := blk_lt Hy.out
          go_wp2_with fail
          go_roundw
          case rel => (repeat apply Exists.intro); refine ⟨?_, rfl⟩; exact ⟨1, by omega, by go_num, Hf.out, Hr.out, HB⟩
          case measure => simp [intOf]
        · skip
          go_wp2_with fail
          go_ret
          exact ⟨rfl, HB⟩
end Go.Proofs.YtmgjcjacoegocaaGreatDoor.Rt

namespace Go.Proofs.YtmgjcjacoegocaaGreatDoor.Rt
set_option maxRecDepth 100000
open Go.RowKit Go.Proofs.YtmgjcjacoegocaaGreatDoor.Wire Go.Shelf
attribute [local go_sem] Oper.semAt_some

/-- the boxes of the interfaces and of the routes -/
def FBox (W : World) (fb g c : Nat) : Prop := W.heap[fb]? = some (.cells #[.slice (some ⟨g, 0, none⟩) 1 c] 34 (0, 0))
def RBox (W : World) (rb : Nat) (v : Value) : Prop := W.heap[rb]? = some (.cells #[v] 71 (0, 0))
set_option maxHeartbeats 2000000 in
theorem net0_any (fb rb g c : Nat) (mac mtu : Int) (w : World) (h1 : FBox w fb g c) (hF : FB w g mac mtu) : Calls Tryz.prog 32 #[.int .i64 0, .pointer (some ⟨fb, 0, none⟩), .pointer (some ⟨rb, 0, none⟩)] w fun e w' => e = .returned (.agg #[.int .i64 167772160, .int .i64 24]) ∧ Below w.heap.size w w' := by
  have H1 := Lib.hid (block_alloc h1 (.cells #[.int .i64 0, .int .i64 0] 28))
  have HF := Lib.hid (block_alloc hF (.cells #[.int .i64 0, .int .i64 0] 28))
  have H0 := Lib.hid (alloc_new w (.cells #[.int .i64 0, .int .i64 0] 28))
  have HZ := Lib.hid (alloc_new w (.cells #[.int .i64 167772160, .int .i64 24] 28))
  have HB := below_alloc (o := .cells #[.int .i64 167772160, .int .i64 24] 28) (Below.refl w.heap.size w)
  have hl1 := blk_lt h1; have hl2 := blk_lt hF
  clear h1 hF
  have c0 := (cell_of_box H1.out).1
  have d2 := (cell_of_block (k := 2) HF.out rfl).1; have d3 := (cell_of_block (k := 3) HF.out rfl).1
  have q0 := (cell_of_block (k := 0) H0.out rfl).1; have q1 := (cell_of_block (k := 1) H0.out rfl).1
  have z0 := (cell_of_block (k := 0) H0.out rfl).2; have z1 := (cell_of_block (k := 1) H0.out rfl).2
  go_enter Tryz.func32, Tryz.ntmps32
  go_wp2_with fail
  refine bodyPost_ret (v := .agg #[.int .i64 167772160, .int .i64 24]) (res_cell1 Tryz.results32 (by exact HZ.out) rfl Tryz.underlying28 rfl (by rfl)) rfl ?_
  exact ⟨rfl, HB⟩
set_option maxHeartbeats 2000000 in
theorem net1_any (fb rb g c h cr : Nat) (w : World) (h1 : FBox w fb g c) (h2 : RBox w rb (.slice (some ⟨h, 0, none⟩) 1 cr)) (hR : RB w h) : Calls Tryz.prog 32 #[.int .i64 1, .pointer (some ⟨fb, 0, none⟩), .pointer (some ⟨rb, 0, none⟩)] w fun e w' => e = .returned (.agg #[.int .i64 0, .int .i64 0]) ∧ Below w.heap.size w w' := by
  have H1 := Lib.hid (block_alloc h1 (.cells #[.int .i64 0, .int .i64 0] 28))
  have H2 := Lib.hid (block_alloc h2 (.cells #[.int .i64 0, .int .i64 0] 28))
  have HF := Lib.hid (block_alloc hR (.cells #[.int .i64 0, .int .i64 0] 28))
  have H0 := Lib.hid (alloc_new w (.cells #[.int .i64 0, .int .i64 0] 28))
  have HZ := Lib.hid (alloc_new w (.cells #[.int .i64 0, .int .i64 0] 28))
  have HB := below_alloc (o := .cells #[.int .i64 0, .int .i64 0] 28) (Below.refl w.heap.size w)
  have hl1 := blk_lt h1; have hl2 := blk_lt hR; have hl3 := blk_lt h2
  clear h1 h2 hR
  have c0 := (cell_of_box H1.out).1
  have c1 := (cell_of_box H2.out).1
  have d2 := (cell_of_block (k := 0) HF.out rfl).1; have d3 := (cell_of_block (k := 1) HF.out rfl).1
  have q0 := (cell_of_block (k := 0) H0.out rfl).1; have q1 := (cell_of_block (k := 1) H0.out rfl).1
  have z0 := (cell_of_block (k := 0) H0.out rfl).2; have z1 := (cell_of_block (k := 1) H0.out rfl).2
  go_enter Tryz.func32, Tryz.ntmps32
  go_wp2_with fail
  refine bodyPost_ret (v := .agg #[.int .i64 0, .int .i64 0]) (res_cell1 Tryz.results32 (by exact HZ.out) rfl Tryz.underlying28 rfl (by rfl)) rfl ?_
  exact ⟨rfl, HB⟩
abbrev netFn (fb rb : Nat) : Value := .func (Fn.func 32) #[] #[.pointer (some ⟨fb, 0, none⟩), .pointer (some ⟨rb, 0, none⟩)]
theorem cands_any (m x : Int) (fb rb : Nat) (w : World) : Calls Tryz.prog 35 #[.int .i64 m, netFn fb rb, .int .i64 x] w fun e w' => e = .returned (.func (Fn.func 83) #[] #[.pointer (some ⟨w.heap.size, 0, none⟩), .pointer (some ⟨w.heap.size + 1, 0, none⟩), .pointer (some ⟨w.heap.size + 2, 0, none⟩)]) ∧ w' = ((w.alloc (.cells #[.int .i64 m] 3)).alloc (.cells #[netFn fb rb] 97)).alloc (.cells #[.int .i64 x] 3) := by
  go_enter Tryz.func35, Tryz.ntmps35
  go_wp2_with fail
  go_ret
  exact ⟨rfl, rfl⟩
set_option maxHeartbeats 4000000 in
theorem cand1_wide (n : Nat) (hn : 1 ≤ n) (M : Nat) (hM : 1 ≤ M ∧ M ≤ 2) (x : Int) (hx : 0 ≤ x ∧ x ≤ 4294967295) (b0 b1 b2 fb rb l : Nat) (r : Loop) (an bn : Nat → Int) (X Y : World → Prop)
    (hX : ∀ W W', X W → Below W.heap.size W W' → X W')
    (hcell : ∀ W, X W → W.cell? ⟨b0, 0, none⟩ = some (.int .i64 (M : Int)) ∧ W.cell? ⟨b1, 0, none⟩ = some (netFn fb rb) ∧ W.cell? ⟨b2, 0, none⟩ = some (.int .i64 x))
    (hnet : ∀ k W, k < M → X W → Calls Tryz.prog 32 #[.int .i64 (k : Int), .pointer (some ⟨fb, 0, none⟩), .pointer (some ⟨rb, 0, none⟩)] W fun e w' => e = .returned (.agg #[.int .i64 (an k), .int .i64 (bn k)]) ∧ Below W.heap.size W w')
    (hin : ∀ k, k < M → NetOk (an k) (bn k) ∧ insB (an k) (bn k) x = decide (k + 1 = M))
    (hY : ∀ W1, X W1 → LoopK l r W1 → YieldAt Fence.wide (n - 1) Tryz.prog (l + 1) #[.int .i64 ((M - 1 : Nat) : Int)] W1 fun e W' => e = .returned (.bool true) ∧ Y W' ∧ LoopK l r W')
    (W : World) (hx0 : X W) (hk : LoopK l r W) :
    CallsIn Fence.wide n Tryz.prog 83 #[.func (.yield (l + 1)) #[] #[], .pointer (some ⟨b0, 0, none⟩), .pointer (some ⟨b1, 0, none⟩), .pointer (some ⟨b2, 0, none⟩)] W fun e W' => (∃ v, e = .returned v) ∧ Y W' ∧ LoopK l r W' := by
  refine callsIn_of_wp Tryz.func83 rfl trivial ?_ rfl
  simp only [Tryz.ntmps83, List.size_toArray, List.length_cons, List.length_nil, Nat.reduceAdd, Nat.reduceSub, Array.replicate_succ, Array.replicate_zero, List.push_toArray, List.append_toArray, List.nil_append, List.cons_append]
  obtain ⟨q0, -, -⟩ := hcell W hx0
  gi_wp2
  clear q0
  gi_loopw [7] (fun u wr => ∃ k : Nat, u = .int .i64 (k : Int) ∧ ((k < M ∧ X wr) ∨ (k = M ∧ Y wr)) ∧ LoopK l r wr) (fun u _ => M - (intOf u).toNat)
  case atStart => exact ⟨0, rfl, .inl ⟨by omega, hx0⟩, hk⟩
  case round =>
    clear hx0 hk
    obtain ⟨k, rfl, hXY, hLk⟩ := hrel
    rcases hXY with ⟨hlt, hXk⟩ | ⟨rfl, hYk⟩
    · have HXk := Lib.hid hXk; have HL := Lib.hid hLk; clear hXk hLk
      have hkM : decide ((k : Int) < (M : Int)) = true := by simp; omega
      obtain ⟨hok, hins⟩ := hin k hlt
      have HN := Lib.hid (hnet k)
      have hkb : k ≤ 1 := by omega
      by_cases hlast : k + 1 = M
      · have hl1 : ((M - 1 : Nat) : Int) = (k : Int) := by omega
        rw [hl1] at hY
        have HC := Lib.hid fun W => contains_any (an k) (bn k) x true W hok hx (by rw [hins]; exact decide_eq_true hlast)
        obtain ⟨-, c1, c2⟩ := hcell wr.drew (hX _ _ HXk.out (Below.refl _ _).drew)
        clear hins hin hnet
        gi_wp2
        gi_region_with (first
          | (refine ⟨trivial, ?_⟩; gi_at_call 84; have _t := X1; clear _t; refine (callsIn_wide.2 (HC.out _)).mono ?_; rintro e w2 ⟨rfl, hb2⟩; have X2 := Lib.hid (hX _ _ X1.out hb2); have L2 := Lib.hid (L1.out.below hb2); obtain ⟨fn, tmps, assign, body, hy, hRn⟩ := hY w2 X2.out L2.out)
          | (refine ⟨trivial, ?_⟩; gi_at_call 32; refine (callsIn_wide.2 (HN.out _ hlt (hX _ _ HXk.out (Below.refl _ _).drew))).mono ?_; rintro e w1 ⟨rfl, hb1⟩; have X1 := Lib.hid (hX _ _ (hX _ _ HXk.out (Below.refl _ _).drew) hb1); have L1 := Lib.hid ((HL.out.below (Below.refl _ _).drew).below hb1); obtain ⟨-, d1, d2⟩ := hcell w1 X1.out)
          | (refine hRn.mono ?_; rintro e w3 ⟨rfl, hy3, hl3⟩))
        all_goals
          gi_wp2
          exact ⟨⟨k + 1, by go_num, .inr ⟨hlast, hy3⟩, hl3⟩, by simp [intOf]; omega⟩
      · have HC := Lib.hid fun W => contains_any (an k) (bn k) x false W hok hx (by rw [hins]; exact decide_eq_false hlast)
        obtain ⟨-, c1, c2⟩ := hcell wr.drew (hX _ _ HXk.out (Below.refl _ _).drew)
        clear hins hin hnet
        gi_wp2
        refine (wpIn_wide (n := n)).2 ?_
        first | (go_region_with (first
          | (go_at_call 84; have _t := X1; clear _t; refine (HC.out _).mono ?_; rintro e w2 ⟨rfl, hb2⟩; have X2 := Lib.hid (hX _ _ X1.out hb2); have L2 := Lib.hid (L1.out.below hb2))
          | (go_at_call 32; refine (HN.out _ hlt (hX _ _ HXk.out (Below.refl _ _).drew)).mono ?_; rintro e w1 ⟨rfl, hb1⟩; have X1 := Lib.hid (hX _ _ (hX _ _ HXk.out (Below.refl _ _).drew) hb1); have L1 := Lib.hid ((HL.out.below (Below.refl _ _).drew).below hb1); obtain ⟨-, d1, d2⟩ := hcell w1 X1.out))) | fail
        all_goals
          gi_wp2
          exact ⟨⟨k + 1, by go_num, .inl ⟨by omega, X2.out⟩, L2.out⟩, by simp [intOf]; omega⟩
    · have hkM : decide ((k : Int) < (k : Int)) = false := by simp
      gi_wp2
      go_end0
      exact ⟨⟨_, rfl⟩, hYk, hLk⟩
end Go.Proofs.YtmgjcjacoegocaaGreatDoor.Rt

namespace Go.Proofs.YtmgjcjacoegocaaGreatDoor.Rt
set_option maxRecDepth 100000
open Go.RowKit Go.Proofs.YtmgjcjacoegocaaGreatDoor.Wire Go.Shelf
attribute [local go_sem] Oper.semAt_some

theorem wpListIn_of_list {l n : Nat} {P : Program} {ops : Array Oper} {Q : Exit → Act → World → Prop} (hQ : ¬ LetsOut Q) : ∀ (rest : List Oper), noDefer rest.toArray = true → ∀ (a : Act) (w : World), wpList P ops Q rest a w → wpListIn (Fence.wide.inRound l) n P ops Q rest a w
  | [], _, _, _, h => h
  | o :: rest, hd, a, w, h => by
    have hd0 : ∀ c, o.op ≠ .defer c := noDefer_at (i := 0) hd (by simp)
    have hd1 : noDefer rest.toArray = true := by
      unfold noDefer at hd ⊢
      rw [Array.all_eq_true'] at hd ⊢
      intro x hx
      exact hd x (by simp at hx ⊢; exact .inr hx)
    unfold wpList at h
    unfold wpListIn
    by_cases hw : Region.wanted o (yielded ops a.tmps) = true
    · rw [if_pos hw] at h ⊢
      rcases h with h | h
      · exact wpIn_of_wp_round hd0 (Oper.wp_mono (fun a w q => wpListIn_of_list hQ rest hd1 a w q) h)
      · exact absurd h.2 hQ
    · rw [if_neg hw] at h ⊢
      exact ⟨fun _ _ => trivial, wpListIn_of_list hQ rest hd1 _ _ h⟩
/-- a plain region, in a round: walked as outside -/
theorem wpIn_round_list {l n id : Nat} {P : Program} {ops : List Oper} {Q : Exit → Act → World → Prop} {a : Act} {w : World} (hd : noDefer ops.toArray = true)
    (h : wpList P ops.toArray (OnlyN Q) ops a w) : (Code.region id ops.toArray false).wpIn (Fence.wide.inRound l) n P Q a w :=
  wpIn_mono (wpIn_region_lit (wpListIn_of_list onlyN_lets ops hd a w h)) onlyN_to
theorem below_put {B : Nat} {w W : World} (h : Below B w W) {l : Nat} (hl : B ≤ l) (o : Obj) : Below B w (W.putObj l o) :=
  ⟨h.os, h.tape, h.output, by simpa [World.putObj] using h.size, fun k hk => (World.putObj_heap_other (by omega)).trans (h.block k hk)⟩
structure BX (w : World) (v : Int) (b : Bool) (W : World) : Prop where
  below : Below w.heap.size w W
  top : W.heap[w.heap.size + 1]? = some (.cells #[.int .i64 v] 3 (0, 0))
  found : W.heap[w.heap.size + 2]? = some (.cells #[.bool b] 4 (0, 0))
theorem BX.down {w W W' : World} {v : Int} {b : Bool} (h : BX w v b W) (hb : Below W.heap.size W W') : BX w v b W' := ⟨below_call h.below hb, bblock hb h.top, bblock hb h.found⟩
theorem BX.put {w W : World} {v : Int} {b : Bool} (h : BX w v b W) {l : Nat} (hl : w.heap.size + 3 ≤ l) (o : Obj) : BX w v b (W.putObj l o) :=
  ⟨⟨h.below.os, h.below.tape, h.below.output, by simpa [World.putObj] using h.below.size, fun k hk => (World.putObj_heap_other (by omega)).trans (h.below.block k hk)⟩, (World.putObj_heap_other (by omega)).trans h.top, (World.putObj_heap_other (by omega)).trans h.found⟩
theorem BX.set {w W : World} {v : Int} {b : Bool} (h : BX w v b W) (v' : Int) : BX w v' true ((W.setCell ⟨w.heap.size + 1, 0, none⟩ (.int .i64 v')).setCell ⟨w.heap.size + 2, 0, none⟩ (.bool true)) := by
  have h1 := block_setCell (k := 0) (v := .int .i64 v') h.top
  have h2 : (W.setCell ⟨w.heap.size + 1, 0, none⟩ (.int .i64 v')).heap[w.heap.size + 2]? = _ := (Below.heap_setCell _ _ _ _ (by show w.heap.size + 2 ≠ w.heap.size + 1; omega)).trans h.found
  refine ⟨Below.setCell (Below.setCell h.below (by show w.heap.size ≤ w.heap.size + 1; omega) _) (by show w.heap.size ≤ w.heap.size + 2; omega) _, ?_, ?_⟩
  · exact (Below.heap_setCell _ _ _ _ (by show w.heap.size + 1 ≠ w.heap.size + 2; omega)).trans (by rw [h1]; simp)
  · rw [block_setCell (k := 0) (v := .bool true) h2]; simp
set_option maxHeartbeats 4000000 in
theorem best_any (M : Nat) (hM : 1 ≤ M ∧ M ≤ 2) (x : Int) (hx : 0 ≤ x ∧ x ≤ 4294967295) (b0 b1 b2 fb rb : Nat) (nb : Nat) (an bn : Nat → Int) (w : World)
    (hc : w.cell? ⟨b0, 0, none⟩ = some (.int .i64 (M : Int)) ∧ w.cell? ⟨b1, 0, none⟩ = some (netFn fb rb) ∧ w.cell? ⟨b2, 0, none⟩ = some (.int .i64 x))
    (hnet : ∀ k W, k < M → Below w.heap.size w W → Calls Tryz.prog 32 #[.int .i64 (k : Int), .pointer (some ⟨fb, 0, none⟩), .pointer (some ⟨rb, 0, none⟩)] W fun e w' => e = .returned (.agg #[.int .i64 (an k), .int .i64 (bn k)]) ∧ Below W.heap.size W w')
    (hin : ∀ k, k < M → NetOk (an k) (bn k) ∧ insB (an k) (bn k) x = decide (k + 1 = M)) :
    Calls Tryz.prog 34 #[.func (Fn.func 83) #[] #[.pointer (some ⟨b0, 0, none⟩), .pointer (some ⟨b1, 0, none⟩), .pointer (some ⟨b2, 0, none⟩)], .func (Fn.func 33) #[] #[.pointer (some ⟨nb, 0, none⟩)]] w fun e w' => e = .returned (.tuple #[.int .i64 ((M - 1 : Nat) : Int), .bool true]) ∧ Below w.heap.size w w' := by
  have HCc := Lib.hid hc; clear hc
  have HNt := Lib.hid hnet; clear hnet
  refine (callsIn_wide (n := 9)).1 ?_
  refine callsIn_of_wp_marks Tryz.func34 rfl trivial ?_ rfl
  simp only [Tryz.ntmps34, List.size_toArray, List.length_cons, List.length_nil, Nat.reduceAdd, Nat.reduceSub, Array.replicate_succ, Array.replicate_zero, List.push_toArray, List.append_toArray, List.nil_append, List.cons_append]
  refine wpIn_wide.2 ?_
  go_wp2_with fail
  refine (wpIn_wide (n := 9)).1 ?_
  have HX0 : Hid (BX w 0 false (((w.alloc (.cells #[.func (Fn.func 33) #[] #[.pointer (some ⟨nb, 0, none⟩)]] 98)).alloc (.cells #[.int .i64 0] 3)).alloc (.cells #[.bool false] 4))) := Lib.hid ⟨below_alloc (below_alloc (below_alloc (Below.refl _ _))), block_alloc (alloc_new' _ _ _ (by simp)) _, alloc_new' _ _ _ (by simp)⟩
  have hSZ : (((w.alloc (.cells #[.func (Fn.func 33) #[] #[.pointer (some ⟨nb, 0, none⟩)]] 98)).alloc (.cells #[.int .i64 0] 3)).alloc (.cells #[.bool false] 4)).heap.size = w.heap.size + 3 := by simp
  generalize ((w.alloc (.cells #[.func (Fn.func 33) #[] #[.pointer (some ⟨nb, 0, none⟩)]] 98)).alloc (.cells #[.int .i64 0] 3)).alloc (.cells #[.bool false] 4) = W0 at *
  have hcB : ∀ W, BX w 0 false W → W.cell? ⟨b0, 0, none⟩ = some (.int .i64 (M : Int)) ∧ W.cell? ⟨b1, 0, none⟩ = some (netFn fb rb) ∧ W.cell? ⟨b2, 0, none⟩ = some (.int .i64 x) := fun W h => ⟨bcell h.below HCc.out.1, bcell h.below HCc.out.2.1, bcell h.below HCc.out.2.2⟩
  refine wpIn_rangeFunc_st (F := Fence.wide) rfl (by omega) (gf := 83) (lb := #[.pointer (some ⟨b0, 0, none⟩), .pointer (some ⟨b1, 0, none⟩), .pointer (some ⟨b2, 0, none⟩)]) rfl trivial (enters_of Tryz.func83 (by kernel_rfl) rfl)
    (fun _ => #[.int .i64 ((M - 1 : Nat) : Int)]) (fun _ => rfl) (fun W => BX w 0 false W) (fun _ W => BX w 0 false W) (fun _ W => BX w ((M - 1 : Nat) : Int) true W) (fun _ _ => False) (fun W => BX w ((M - 1 : Nat) : Int) true W)
    (fun o o' => ?j0) (fun i W l o hl h => ?j1) (fun i W l o hl h => ?j2) (fun c W l o hl h => ?j3) (fun W l o hl h => ?j4)
    (fun l r W hl h0 hk hY => (cand1_wide 8 (by omega) M hM x hx b0 b1 b2 fb rb l r an bn (fun W => BX w 0 false W) (fun W => BX w ((M - 1 : Nat) : Int) true W) (fun _ _ h hb => h.down hb) hcB (fun k W hk h => HNt.out k W hk h.below) hin (fun W1 h1 hk1 => (hY 0 W1 h1 hk1).mono (fun e W' h => by
      rcases h with h | ⟨-, c, h, -⟩
      · exact h
      · exact h.elim)) W h0 hk).mono (fun e W' h => ⟨h.1, .inl h.2⟩))
    (fun i => { tmps := #[.func (Fn.func 83) #[] #[.pointer (some ⟨b0, 0, none⟩), .pointer (some ⟨b1, 0, none⟩), .pointer (some ⟨b2, 0, none⟩)], .func (Fn.func 33) #[] #[.pointer (some ⟨nb, 0, none⟩)], undef, .pointer (some ⟨w.heap.size, 0, none⟩), .int .i64 0, .bool false, .pointer (some ⟨w.heap.size + 1, 0, none⟩), .pointer (some ⟨w.heap.size + 2, 0, none⟩), .int .i64 ((M - 1 : Nat) : Int), .func (Fn.func 83) #[] #[.pointer (some ⟨b0, 0, none⟩), .pointer (some ⟨b1, 0, none⟩), .pointer (some ⟨b2, 0, none⟩)], .int .i64 ((M - 1 : Nat) : Int), undef, undef, undef, undef, undef, undef, undef, undef, undef, undef, undef], defers := [] }) ?assign ?body ?done ?stop
  case j0 => exact HX0.out.down (((Below.refl _ _).alloc (Nat.le_refl _) o).alloc (by simp) o')
  case j1 => exact h.put (by omega) o
  case j2 => exact h.put (by omega) o
  case j3 => exact h.elim
  case j4 => exact h.put (by omega) o
  case assign =>
    intro l i W K hK
    gi_wp2
    exact hK
  case body =>
    intro l i W hX
    have HX := Lib.hid hX; clear hX
    have c0 := (cell_of_box HX.out.top).1; have z0 := (cell_of_box HX.out.top).2
    have c1 := (cell_of_box HX.out.found).1; have z1 := (cell_of_box HX.out.found).2
    gi_step
    gi_step
    gi_step
    refine wpIn_round_list (by kernel_rfl) ?_
    go_wp2_with fail
    unfold OnlyN
    gi_wp2
    exact ⟨(KeepsOthers.setCell _ _ _).trans (KeepsOthers.setCell _ _ _), HX.out.set _⟩
  case done =>
    intro W hF hD
    have c0 := (cell_of_box hF.top).1; have c1 := (cell_of_box hF.found).1
    have HF := Lib.hid hF; have HD := Lib.hid hD; clear hF hD
    go_upto_region 7 with fail
    go_quiet (fail)
    go_wp2_with fail
    refine ⟨by simp, .inl ⟨_, _, rfl, run_takeDeferred (by exact HD.out), ?_⟩⟩
    refine ⟨_, results_tmp2 Tryz.results34 _ _ _, ?_, below_put (below_drewN HF.out.below nq) (by omega) _⟩
    rfl
  case stop =>
    intro c W h
    exact h.elim
end Go.Proofs.YtmgjcjacoegocaaGreatDoor.Rt

namespace Go.Proofs.YtmgjcjacoegocaaGreatDoor.Rt
set_option maxRecDepth 100000
open Go.RowKit Go.Proofs.YtmgjcjacoegocaaGreatDoor.Wire Go.Shelf

theorem bits_andNot (x m : Nat) (hx : x < 4294967296) : bits .andNot .i64 (x : Int) (m : Int) = ((BitVec.ofNat 64 x &&& ~~~BitVec.ofNat 64 m).toNat : Int) := by
  have h1 : (BitVec.ofNat 64 x &&& ~~~BitVec.ofNat 64 m).toNat ≤ x := by
    rw [BitVec.toNat_and, BitVec.toNat_ofNat]
    exact Nat.le_trans Nat.and_le_left (Nat.mod_le _ _)
  show IntKind.i64.wrap (((BitVec.ofInt 64 (x : Int)) &&& ~~~(BitVec.ofInt 64 (m : Int))).toNat : Int) = _
  rw [BitVec.ofInt_natCast, BitVec.ofInt_natCast]
  exact IntWalk.i64_in _ (by omega)
theorem any_in (x : Int) (hx : 0 ≤ x ∧ x ≤ 4294967295) : insB 0 0 x = true := by
  obtain ⟨n, rfl⟩ := Int.eq_ofNat_of_zero_le hx.1
  unfold insB maskOf
  rw [if_pos rfl, beq_iff_eq]
  have := bits_andNot n 4294967295 (by omega)
  rw [show ((4294967295 : Nat) : Int) = 4294967295 from rfl] at this
  rw [this]
  have h0 : BitVec.ofNat 64 n &&& ~~~BitVec.ofNat 64 4294967295 = 0#64 := by
    apply BitVec.eq_of_getLsbD_eq
    intro i hi
    rw [BitVec.getLsbD_and, BitVec.getLsbD_not, BitVec.getLsbD_ofNat, BitVec.getLsbD_ofNat, BitVec.getLsbD_zero]
    rw [show (4294967295 : Nat) = 2 ^ 32 - 1 from rfl, Nat.testBit_two_pow_sub_one]
    by_cases h : i < 32
    · simp [h]
    · have : n.testBit i = false := Nat.testBit_lt_two_pow (Nat.lt_of_lt_of_le (show n < 2 ^ 32 by omega) (Nat.pow_le_pow_right (by omega) (by omega)))
      simp [this]
  rw [h0]; rfl
theorem far_out (x : Int) (hx : 3232235520 ≤ x ∧ x ≤ 3232301055) : insB 167772160 24 x = false := by
  obtain ⟨n, rfl⟩ := Int.eq_ofNat_of_zero_le (show 0 ≤ x by omega)
  unfold insB maskOf
  rw [if_neg (by omega), beq_eq_false_iff_ne]
  have := bits_andNot n 255 (by omega)
  rw [show ((255 : Nat) : Int) = 255 from rfl] at this
  rw [this]
  intro h
  have h2 : (BitVec.ofNat 64 n &&& ~~~BitVec.ofNat 64 255).toNat = 167772160 := by omega
  have h3 : (BitVec.ofNat 64 n &&& ~~~BitVec.ofNat 64 255).getLsbD 31 = true := by
    rw [BitVec.getLsbD_and, BitVec.getLsbD_not, BitVec.getLsbD_ofNat, BitVec.getLsbD_ofNat]
    have e1 : n.testBit 31 = true := by
      rw [Nat.testBit_eq_decide_div_mod_eq]
      simp; omega
    rw [e1]; decide
  have h4 : (BitVec.ofNat 64 n &&& ~~~BitVec.ofNat 64 255).getLsbD 31 = (167772160 : Nat).testBit 31 := by
    rw [← h2]; rfl
  rw [h3] at h4
  revert h4; decide
theorem near_in : insB 167772160 24 167772162 = true := by decide
set_option maxHeartbeats 8000000 in
theorem lookup1 (g c : Nat) (mac mtu : Int) (w : World) (hm : 1 ≤ mac ∧ mac ≤ 65534) (ht : 68 ≤ mtu ∧ mtu ≤ 1024) (hF : FB w g mac mtu) : Calls Tryz.prog 6 #[.slice (some ⟨g, 0, none⟩) 1 c, .slice none 0 0, .int .i64 167772162] w fun e w' => e = .returned (.tuple #[.int .i64 0, .int .i64 167772162, .int .i64 0]) ∧ Below w.heap.size w w' := by
  have HK := Lib.hid fun W (hf : FB W g mac mtu) => check1 g c mac mtu W hm ht hf
  have HU := Lib.hid fun W => uni_any 167772162 W
  rw [show decide ((1 : Int) ≤ 167772162 ∧ (167772162 : Int) < 4294967295) = true from decide_eq_true (by omega)] at HU
  have Hf := Lib.hid hF; clear hF
  unfold FB at Hf
  have HIn : Hid (∀ k, k < 1 → NetOk ((fun _ : Nat => (167772160 : Int)) k) ((fun _ : Nat => (24 : Int)) k) ∧ insB ((fun _ : Nat => (167772160 : Int)) k) ((fun _ : Nat => (24 : Int)) k) 167772162 = decide (k + 1 = 1)) := Lib.hid fun k hk => by
    obtain rfl : k = 0 := by omega
    exact ⟨.inl ⟨rfl, rfl⟩, near_in⟩
  have HCd := Lib.hid fun m fb rb W => cands_any m 167772162 fb rb W
  have HB := Below.refl w.heap.size w
  have Hfb := Lib.hid (alloc_new' w (.cells #[.slice (some ⟨g, 0, none⟩) 1 c] 34) (w.heap.size) (by simp))
  have Hf' := Lib.hid (block_alloc Hf.out (.cells #[.slice (some ⟨g, 0, none⟩) 1 c] 34)); clear Hf; have Hf := Hf'; clear Hf'
  have HB' := below_alloc (o := .cells #[.slice (some ⟨g, 0, none⟩) 1 c] 34) HB; clear HB; have HB := HB'; clear HB'
  have Hrb := Lib.hid (alloc_new' (w.alloc (.cells #[.slice (some ⟨g, 0, none⟩) 1 c] 34)) (.cells #[.slice none 0 0] 71) (w.heap.size + 1) (by simp))
  have Hf' := Lib.hid (block_alloc Hf.out (.cells #[.slice none 0 0] 71)); clear Hf; have Hf := Hf'; clear Hf'
  have Hfb' := Lib.hid (block_alloc Hfb.out (.cells #[.slice none 0 0] 71)); clear Hfb; have Hfb := Hfb'; clear Hfb'
  have HB' := below_alloc (o := .cells #[.slice none 0 0] 71) HB; clear HB; have HB := HB'; clear HB'
  go_enter Tryz.func6, Tryz.ntmps6
  have Sfb := cell_of_box Hfb.out
  obtain ⟨qfb0, zfb0⟩ := Sfb
  have lt_fb := blk_lt Hfb.out
  have Srb := cell_of_box Hrb.out
  obtain ⟨qrb0, zrb0⟩ := Srb
  have lt_rb := blk_lt Hrb.out
  go_wp2_with fail
  refine (HK.out _ (by exact Hf.out)).mono ?_
  rintro e w1 ⟨rfl, hb⟩
  clear qfb0 zfb0
  clear qrb0 zrb0
  have Hf' := Lib.hid (bblock hb Hf.out); clear Hf; have Hf := Hf'; clear Hf'
  have Hfb' := Lib.hid (bblock hb Hfb.out); clear Hfb; have Hfb := Hfb'; clear Hfb'
  have Hrb' := Lib.hid (bblock hb Hrb.out); clear Hrb; have Hrb := Hrb'; clear Hrb'
  have HB' := below_call HB hb; clear HB hb; have HB := HB'; clear HB'; have hz1 := HB.size
  have lt_f_1 := blk_lt Hf.out
  have lt_fb_1 := blk_lt Hfb.out
  have lt_rb_1 := blk_lt Hrb.out
  go_wp2_with fail
  refine (HU.out _).mono ?_
  rintro e w' ⟨rfl, rfl⟩
  -- the closure in its box
  go_upto_region 8 with fail
  have Hnb := Lib.hid (alloc_new' w1 (.cells #[.func (Fn.func 32) #[] #[.pointer (some ⟨w.heap.size, 0, none⟩), .pointer (some ⟨w.heap.size + 1, 0, none⟩)]] 97) (w1.heap.size) (by simp))
  have Hf' := Lib.hid (block_alloc Hf.out (.cells #[.func (Fn.func 32) #[] #[.pointer (some ⟨w.heap.size, 0, none⟩), .pointer (some ⟨w.heap.size + 1, 0, none⟩)]] 97)); clear Hf; have Hf := Hf'; clear Hf'
  have Hfb' := Lib.hid (block_alloc Hfb.out (.cells #[.func (Fn.func 32) #[] #[.pointer (some ⟨w.heap.size, 0, none⟩), .pointer (some ⟨w.heap.size + 1, 0, none⟩)]] 97)); clear Hfb; have Hfb := Hfb'; clear Hfb'
  have Hrb' := Lib.hid (block_alloc Hrb.out (.cells #[.func (Fn.func 32) #[] #[.pointer (some ⟨w.heap.size, 0, none⟩), .pointer (some ⟨w.heap.size + 1, 0, none⟩)]] 97)); clear Hrb; have Hrb := Hrb'; clear Hrb'
  have HB' := below_alloc (o := .cells #[.func (Fn.func 32) #[] #[.pointer (some ⟨w.heap.size, 0, none⟩), .pointer (some ⟨w.heap.size + 1, 0, none⟩)]] 97) HB; clear HB; have HB := HB'; clear HB'
  have Sfb := cell_of_box Hfb.out
  obtain ⟨qfb0, zfb0⟩ := Sfb
  have lt_fb := blk_lt Hfb.out
  have Srb := cell_of_box Hrb.out
  obtain ⟨qrb0, zrb0⟩ := Srb
  have lt_rb := blk_lt Hrb.out
  have Snb := cell_of_box Hnb.out
  obtain ⟨qnb0, znb0⟩ := Snb
  have lt_nb := blk_lt Hnb.out
  go_wp2_with fail
  refine (HCd.out _ _ _ _).mono ?_
  rintro e w' ⟨rfl, rfl⟩
  clear qfb0 zfb0 qrb0 zrb0 qnb0 znb0
  have Hm := Lib.hid (alloc_new' (w1.alloc (.cells #[.func (Fn.func 32) #[] #[.pointer (some ⟨w.heap.size, 0, none⟩), .pointer (some ⟨w.heap.size + 1, 0, none⟩)]] 97)) (.cells #[.int .i64 1] 3) (w1.heap.size + 1) (by simp))
  have Hf' := Lib.hid (block_alloc Hf.out (.cells #[.int .i64 1] 3)); clear Hf; have Hf := Hf'; clear Hf'
  have Hfb' := Lib.hid (block_alloc Hfb.out (.cells #[.int .i64 1] 3)); clear Hfb; have Hfb := Hfb'; clear Hfb'
  have Hrb' := Lib.hid (block_alloc Hrb.out (.cells #[.int .i64 1] 3)); clear Hrb; have Hrb := Hrb'; clear Hrb'
  have Hnb' := Lib.hid (block_alloc Hnb.out (.cells #[.int .i64 1] 3)); clear Hnb; have Hnb := Hnb'; clear Hnb'
  have HB' := below_alloc (o := .cells #[.int .i64 1] 3) HB; clear HB; have HB := HB'; clear HB'
  have Hn := Lib.hid (alloc_new' ((w1.alloc (.cells #[.func (Fn.func 32) #[] #[.pointer (some ⟨w.heap.size, 0, none⟩), .pointer (some ⟨w.heap.size + 1, 0, none⟩)]] 97)).alloc (.cells #[.int .i64 1] 3)) (.cells #[.func (Fn.func 32) #[] #[.pointer (some ⟨w.heap.size, 0, none⟩), .pointer (some ⟨w.heap.size + 1, 0, none⟩)]] 97) (w1.heap.size + 1 + 1) (by simp))
  have Hf' := Lib.hid (block_alloc Hf.out (.cells #[.func (Fn.func 32) #[] #[.pointer (some ⟨w.heap.size, 0, none⟩), .pointer (some ⟨w.heap.size + 1, 0, none⟩)]] 97)); clear Hf; have Hf := Hf'; clear Hf'
  have Hfb' := Lib.hid (block_alloc Hfb.out (.cells #[.func (Fn.func 32) #[] #[.pointer (some ⟨w.heap.size, 0, none⟩), .pointer (some ⟨w.heap.size + 1, 0, none⟩)]] 97)); clear Hfb; have Hfb := Hfb'; clear Hfb'
  have Hrb' := Lib.hid (block_alloc Hrb.out (.cells #[.func (Fn.func 32) #[] #[.pointer (some ⟨w.heap.size, 0, none⟩), .pointer (some ⟨w.heap.size + 1, 0, none⟩)]] 97)); clear Hrb; have Hrb := Hrb'; clear Hrb'
  have Hnb' := Lib.hid (block_alloc Hnb.out (.cells #[.func (Fn.func 32) #[] #[.pointer (some ⟨w.heap.size, 0, none⟩), .pointer (some ⟨w.heap.size + 1, 0, none⟩)]] 97)); clear Hnb; have Hnb := Hnb'; clear Hnb'
  have Hm' := Lib.hid (block_alloc Hm.out (.cells #[.func (Fn.func 32) #[] #[.pointer (some ⟨w.heap.size, 0, none⟩), .pointer (some ⟨w.heap.size + 1, 0, none⟩)]] 97)); clear Hm; have Hm := Hm'; clear Hm'
  have HB' := below_alloc (o := .cells #[.func (Fn.func 32) #[] #[.pointer (some ⟨w.heap.size, 0, none⟩), .pointer (some ⟨w.heap.size + 1, 0, none⟩)]] 97) HB; clear HB; have HB := HB'; clear HB'
  have Hx := Lib.hid (alloc_new' (((w1.alloc (.cells #[.func (Fn.func 32) #[] #[.pointer (some ⟨w.heap.size, 0, none⟩), .pointer (some ⟨w.heap.size + 1, 0, none⟩)]] 97)).alloc (.cells #[.int .i64 1] 3)).alloc (.cells #[.func (Fn.func 32) #[] #[.pointer (some ⟨w.heap.size, 0, none⟩), .pointer (some ⟨w.heap.size + 1, 0, none⟩)]] 97)) (.cells #[.int .i64 167772162] 3) (w1.heap.size + 1 + 1 + 1) (by simp))
  have Hf' := Lib.hid (block_alloc Hf.out (.cells #[.int .i64 167772162] 3)); clear Hf; have Hf := Hf'; clear Hf'
  have Hfb' := Lib.hid (block_alloc Hfb.out (.cells #[.int .i64 167772162] 3)); clear Hfb; have Hfb := Hfb'; clear Hfb'
  have Hrb' := Lib.hid (block_alloc Hrb.out (.cells #[.int .i64 167772162] 3)); clear Hrb; have Hrb := Hrb'; clear Hrb'
  have Hnb' := Lib.hid (block_alloc Hnb.out (.cells #[.int .i64 167772162] 3)); clear Hnb; have Hnb := Hnb'; clear Hnb'
  have Hm' := Lib.hid (block_alloc Hm.out (.cells #[.int .i64 167772162] 3)); clear Hm; have Hm := Hm'; clear Hm'
  have Hn' := Lib.hid (block_alloc Hn.out (.cells #[.int .i64 167772162] 3)); clear Hn; have Hn := Hn'; clear Hn'
  have HB' := below_alloc (o := .cells #[.int .i64 167772162] 3) HB; clear HB; have HB := HB'; clear HB'
  have HBs : Hid (∀ W, W = ((((w1.alloc (.cells #[.func (Fn.func 32) #[] #[.pointer (some ⟨w.heap.size, 0, none⟩), .pointer (some ⟨w.heap.size + 1, 0, none⟩)]] 97)).alloc (.cells #[.int .i64 1] 3)).alloc (.cells #[.func (Fn.func 32) #[] #[.pointer (some ⟨w.heap.size, 0, none⟩), .pointer (some ⟨w.heap.size + 1, 0, none⟩)]] 97)).alloc (.cells #[.int .i64 167772162] 3)) → Calls Tryz.prog 34 #[.func (Fn.func 83) #[] #[.pointer (some ⟨w1.heap.size + 1, 0, none⟩), .pointer (some ⟨w1.heap.size + 1 + 1, 0, none⟩), .pointer (some ⟨w1.heap.size + 1 + 1 + 1, 0, none⟩)], .func (Fn.func 33) #[] #[.pointer (some ⟨w1.heap.size, 0, none⟩)]] W fun e w' => e = .returned (.tuple #[.int .i64 0, .bool true]) ∧ Below W.heap.size W w') := Lib.hid (by
    rintro W rfl
    exact best_any 1 (by omega) 167772162 (by omega) _ _ _ _ _ _ (fun _ : Nat => (167772160 : Int)) (fun _ : Nat => (24 : Int)) _ ⟨(cell_of_box Hm.out).1, (cell_of_box Hn.out).1, (cell_of_box Hx.out).1⟩ (fun k W' hk hb => by
      obtain rfl : k = 0 := by omega
      exact net0_any _ _ g c mac mtu W' (bblock hb Hfb.out) (bblock hb Hf.out)) HIn.out)
  go_wp2_with fail
  refine (HBs.out _ rfl).mono ?_
  rintro e w2 ⟨rfl, hb⟩
  have Hf' := Lib.hid (bblock hb Hf.out); clear Hf; have Hf := Hf'; clear Hf'
  have Hfb' := Lib.hid (bblock hb Hfb.out); clear Hfb; have Hfb := Hfb'; clear Hfb'
  have Hrb' := Lib.hid (bblock hb Hrb.out); clear Hrb; have Hrb := Hrb'; clear Hrb'
  have Hnb' := Lib.hid (bblock hb Hnb.out); clear Hnb; have Hnb := Hnb'; clear Hnb'
  have Hm' := Lib.hid (bblock hb Hm.out); clear Hm; have Hm := Hm'; clear Hm'
  have Hn' := Lib.hid (bblock hb Hn.out); clear Hn; have Hn := Hn'; clear Hn'
  have Hx' := Lib.hid (bblock hb Hx.out); clear Hx; have Hx := Hx'; clear Hx'
  have HB' := below_call HB hb; clear HB hb; have HB := HB'; clear HB'; have hz2 := HB.size
  have lt_f_2 := blk_lt Hf.out
  have lt_fb_2 := blk_lt Hfb.out
  have lt_rb_2 := blk_lt Hrb.out
  have lt_nb_2 := blk_lt Hnb.out
  have lt_m_2 := blk_lt Hm.out
  have lt_n_2 := blk_lt Hn.out
  have lt_x_2 := blk_lt Hx.out
  clear HBs
  clear Hm Hn Hx
  have Sfb := cell_of_box Hfb.out
  obtain ⟨qfb0, zfb0⟩ := Sfb
  have lt_fb := blk_lt Hfb.out
  have Srb := cell_of_box Hrb.out
  obtain ⟨qrb0, zrb0⟩ := Srb
  have lt_rb := blk_lt Hrb.out
  go_wp2_with fail
  go_ret3
  exact ⟨rfl, HB⟩
set_option maxHeartbeats 8000000 in
theorem lookup2 (g c h cr : Nat) (mac mtu x : Int) (w : World) (hm : 1 ≤ mac ∧ mac ≤ 65534) (ht : 68 ≤ mtu ∧ mtu ≤ 1024) (hx : 3232235520 ≤ x ∧ x ≤ 3232301055) (hF : FB w g mac mtu) (hR : RB w h) : Calls Tryz.prog 6 #[.slice (some ⟨g, 0, none⟩) 1 c, .slice (some ⟨h, 0, none⟩) 1 cr, .int .i64 x] w fun e w' => e = .returned (.tuple #[.int .i64 0, .int .i64 167772414, .int .i64 0]) ∧ Below w.heap.size w w' := by
  have HK := Lib.hid fun W (hf : FB W g mac mtu) (hr : RB W h) => check2 g c h cr mac mtu W hm ht hf hr
  have HU := Lib.hid fun W => uni_any x W
  rw [show decide ((1 : Int) ≤ x ∧ (x : Int) < 4294967295) = true from decide_eq_true (by omega)] at HU
  have Hf := Lib.hid hF; clear hF
  unfold FB at Hf
  have Hr := Lib.hid hR; clear hR
  unfold RB at Hr
  have HIn : Hid (∀ k, k < 2 → NetOk ((fun k : Nat => if k = 0 then (167772160 : Int) else 0) k) ((fun k : Nat => if k = 0 then (24 : Int) else 0) k) ∧ insB ((fun k : Nat => if k = 0 then (167772160 : Int) else 0) k) ((fun k : Nat => if k = 0 then (24 : Int) else 0) k) x = decide (k + 1 = 2)) := Lib.hid fun k hk => by
    have hk2 : k = 0 ∨ k = 1 := by omega
    rcases hk2 with rfl | rfl
    · exact ⟨.inl ⟨rfl, rfl⟩, far_out x hx⟩
    · exact ⟨.inr ⟨rfl, rfl⟩, any_in x (by omega)⟩
  have HCd := Lib.hid fun m fb rb W => cands_any m x fb rb W
  have HB := Below.refl w.heap.size w
  have Hfb := Lib.hid (alloc_new' w (.cells #[.slice (some ⟨g, 0, none⟩) 1 c] 34) (w.heap.size) (by simp))
  have Hf' := Lib.hid (block_alloc Hf.out (.cells #[.slice (some ⟨g, 0, none⟩) 1 c] 34)); clear Hf; have Hf := Hf'; clear Hf'
  have Hr' := Lib.hid (block_alloc Hr.out (.cells #[.slice (some ⟨g, 0, none⟩) 1 c] 34)); clear Hr; have Hr := Hr'; clear Hr'
  have HB' := below_alloc (o := .cells #[.slice (some ⟨g, 0, none⟩) 1 c] 34) HB; clear HB; have HB := HB'; clear HB'
  have Hrb := Lib.hid (alloc_new' (w.alloc (.cells #[.slice (some ⟨g, 0, none⟩) 1 c] 34)) (.cells #[.slice (some ⟨h, 0, none⟩) 1 cr] 71) (w.heap.size + 1) (by simp))
  have Hf' := Lib.hid (block_alloc Hf.out (.cells #[.slice (some ⟨h, 0, none⟩) 1 cr] 71)); clear Hf; have Hf := Hf'; clear Hf'
  have Hr' := Lib.hid (block_alloc Hr.out (.cells #[.slice (some ⟨h, 0, none⟩) 1 cr] 71)); clear Hr; have Hr := Hr'; clear Hr'
  have Hfb' := Lib.hid (block_alloc Hfb.out (.cells #[.slice (some ⟨h, 0, none⟩) 1 cr] 71)); clear Hfb; have Hfb := Hfb'; clear Hfb'
  have HB' := below_alloc (o := .cells #[.slice (some ⟨h, 0, none⟩) 1 cr] 71) HB; clear HB; have HB := HB'; clear HB'
  go_enter Tryz.func6, Tryz.ntmps6
  have Sfb := cell_of_box Hfb.out
  obtain ⟨qfb0, zfb0⟩ := Sfb
  have lt_fb := blk_lt Hfb.out
  have Srb := cell_of_box Hrb.out
  obtain ⟨qrb0, zrb0⟩ := Srb
  have lt_rb := blk_lt Hrb.out
  go_wp2_with fail
  refine (HK.out _ (by exact Hf.out) (by exact Hr.out)).mono ?_
  rintro e w1 ⟨rfl, hb⟩
  clear qfb0 zfb0
  clear qrb0 zrb0
  have Hf' := Lib.hid (bblock hb Hf.out); clear Hf; have Hf := Hf'; clear Hf'
  have Hr' := Lib.hid (bblock hb Hr.out); clear Hr; have Hr := Hr'; clear Hr'
  have Hfb' := Lib.hid (bblock hb Hfb.out); clear Hfb; have Hfb := Hfb'; clear Hfb'
  have Hrb' := Lib.hid (bblock hb Hrb.out); clear Hrb; have Hrb := Hrb'; clear Hrb'
  have HB' := below_call HB hb; clear HB hb; have HB := HB'; clear HB'; have hz1 := HB.size
  have lt_f_1 := blk_lt Hf.out
  have lt_r_1 := blk_lt Hr.out
  have lt_fb_1 := blk_lt Hfb.out
  have lt_rb_1 := blk_lt Hrb.out
  go_wp2_with fail
  refine (HU.out _).mono ?_
  rintro e w' ⟨rfl, rfl⟩
  -- the closure in its box
  go_upto_region 8 with fail
  have Hnb := Lib.hid (alloc_new' w1 (.cells #[.func (Fn.func 32) #[] #[.pointer (some ⟨w.heap.size, 0, none⟩), .pointer (some ⟨w.heap.size + 1, 0, none⟩)]] 97) (w1.heap.size) (by simp))
  have Hf' := Lib.hid (block_alloc Hf.out (.cells #[.func (Fn.func 32) #[] #[.pointer (some ⟨w.heap.size, 0, none⟩), .pointer (some ⟨w.heap.size + 1, 0, none⟩)]] 97)); clear Hf; have Hf := Hf'; clear Hf'
  have Hr' := Lib.hid (block_alloc Hr.out (.cells #[.func (Fn.func 32) #[] #[.pointer (some ⟨w.heap.size, 0, none⟩), .pointer (some ⟨w.heap.size + 1, 0, none⟩)]] 97)); clear Hr; have Hr := Hr'; clear Hr'
  have Hfb' := Lib.hid (block_alloc Hfb.out (.cells #[.func (Fn.func 32) #[] #[.pointer (some ⟨w.heap.size, 0, none⟩), .pointer (some ⟨w.heap.size + 1, 0, none⟩)]] 97)); clear Hfb; have Hfb := Hfb'; clear Hfb'
  have Hrb' := Lib.hid (block_alloc Hrb.out (.cells #[.func (Fn.func 32) #[] #[.pointer (some ⟨w.heap.size, 0, none⟩), .pointer (some ⟨w.heap.size + 1, 0, none⟩)]] 97)); clear Hrb; have Hrb := Hrb'; clear Hrb'
  have HB' := below_alloc (o := .cells #[.func (Fn.func 32) #[] #[.pointer (some ⟨w.heap.size, 0, none⟩), .pointer (some ⟨w.heap.size + 1, 0, none⟩)]] 97) HB; clear HB; have HB := HB'; clear HB'
  have Sfb := cell_of_box Hfb.out
  obtain ⟨qfb0, zfb0⟩ := Sfb
  have lt_fb := blk_lt Hfb.out
  have Srb := cell_of_box Hrb.out
  obtain ⟨qrb0, zrb0⟩ := Srb
  have lt_rb := blk_lt Hrb.out
  have Snb := cell_of_box Hnb.out
  obtain ⟨qnb0, znb0⟩ := Snb
  have lt_nb := blk_lt Hnb.out
  go_wp2_with fail
  refine (HCd.out _ _ _ _).mono ?_
  rintro e w' ⟨rfl, rfl⟩
  clear qfb0 zfb0 qrb0 zrb0 qnb0 znb0
  have Hm := Lib.hid (alloc_new' (w1.alloc (.cells #[.func (Fn.func 32) #[] #[.pointer (some ⟨w.heap.size, 0, none⟩), .pointer (some ⟨w.heap.size + 1, 0, none⟩)]] 97)) (.cells #[.int .i64 2] 3) (w1.heap.size + 1) (by simp))
  have Hf' := Lib.hid (block_alloc Hf.out (.cells #[.int .i64 2] 3)); clear Hf; have Hf := Hf'; clear Hf'
  have Hr' := Lib.hid (block_alloc Hr.out (.cells #[.int .i64 2] 3)); clear Hr; have Hr := Hr'; clear Hr'
  have Hfb' := Lib.hid (block_alloc Hfb.out (.cells #[.int .i64 2] 3)); clear Hfb; have Hfb := Hfb'; clear Hfb'
  have Hrb' := Lib.hid (block_alloc Hrb.out (.cells #[.int .i64 2] 3)); clear Hrb; have Hrb := Hrb'; clear Hrb'
  have Hnb' := Lib.hid (block_alloc Hnb.out (.cells #[.int .i64 2] 3)); clear Hnb; have Hnb := Hnb'; clear Hnb'
  have HB' := below_alloc (o := .cells #[.int .i64 2] 3) HB; clear HB; have HB := HB'; clear HB'
  have Hn := Lib.hid (alloc_new' ((w1.alloc (.cells #[.func (Fn.func 32) #[] #[.pointer (some ⟨w.heap.size, 0, none⟩), .pointer (some ⟨w.heap.size + 1, 0, none⟩)]] 97)).alloc (.cells #[.int .i64 2] 3)) (.cells #[.func (Fn.func 32) #[] #[.pointer (some ⟨w.heap.size, 0, none⟩), .pointer (some ⟨w.heap.size + 1, 0, none⟩)]] 97) (w1.heap.size + 1 + 1) (by simp))
  have Hf' := Lib.hid (block_alloc Hf.out (.cells #[.func (Fn.func 32) #[] #[.pointer (some ⟨w.heap.size, 0, none⟩), .pointer (some ⟨w.heap.size + 1, 0, none⟩)]] 97)); clear Hf; have Hf := Hf'; clear Hf'
  have Hr' := Lib.hid (block_alloc Hr.out (.cells #[.func (Fn.func 32) #[] #[.pointer (some ⟨w.heap.size, 0, none⟩), .pointer (some ⟨w.heap.size + 1, 0, none⟩)]] 97)); clear Hr; have Hr := Hr'; clear Hr'
  have Hfb' := Lib.hid (block_alloc Hfb.out (.cells #[.func (Fn.func 32) #[] #[.pointer (some ⟨w.heap.size, 0, none⟩), .pointer (some ⟨w.heap.size + 1, 0, none⟩)]] 97)); clear Hfb; have Hfb := Hfb'; clear Hfb'
  have Hrb' := Lib.hid (block_alloc Hrb.out (.cells #[.func (Fn.func 32) #[] #[.pointer (some ⟨w.heap.size, 0, none⟩), .pointer (some ⟨w.heap.size + 1, 0, none⟩)]] 97)); clear Hrb; have Hrb := Hrb'; clear Hrb'
  have Hnb' := Lib.hid (block_alloc Hnb.out (.cells #[.func (Fn.func 32) #[] #[.pointer (some ⟨w.heap.size, 0, none⟩), .pointer (some ⟨w.heap.size + 1, 0, none⟩)]] 97)); clear Hnb; have Hnb := Hnb'; clear Hnb'
  have Hm' := Lib.hid (block_alloc Hm.out (.cells #[.func (Fn.func 32) #[] #[.pointer (some ⟨w.heap.size, 0, none⟩), .pointer (some ⟨w.heap.size + 1, 0, none⟩)]] 97)); clear Hm; have Hm := Hm'; clear Hm'
  have HB' := below_alloc (o := .cells #[.func (Fn.func 32) #[] #[.pointer (some ⟨w.heap.size, 0, none⟩), .pointer (some ⟨w.heap.size + 1, 0, none⟩)]] 97) HB; clear HB; have HB := HB'; clear HB'
  have Hx := Lib.hid (alloc_new' (((w1.alloc (.cells #[.func (Fn.func 32) #[] #[.pointer (some ⟨w.heap.size, 0, none⟩), .pointer (some ⟨w.heap.size + 1, 0, none⟩)]] 97)).alloc (.cells #[.int .i64 2] 3)).alloc (.cells #[.func (Fn.func 32) #[] #[.pointer (some ⟨w.heap.size, 0, none⟩), .pointer (some ⟨w.heap.size + 1, 0, none⟩)]] 97)) (.cells #[.int .i64 x] 3) (w1.heap.size + 1 + 1 + 1) (by simp))
  have Hf' := Lib.hid (block_alloc Hf.out (.cells #[.int .i64 x] 3)); clear Hf; have Hf := Hf'; clear Hf'
  have Hr' := Lib.hid (block_alloc Hr.out (.cells #[.int .i64 x] 3)); clear Hr; have Hr := Hr'; clear Hr'
  have Hfb' := Lib.hid (block_alloc Hfb.out (.cells #[.int .i64 x] 3)); clear Hfb; have Hfb := Hfb'; clear Hfb'
  have Hrb' := Lib.hid (block_alloc Hrb.out (.cells #[.int .i64 x] 3)); clear Hrb; have Hrb := Hrb'; clear Hrb'
  have Hnb' := Lib.hid (block_alloc Hnb.out (.cells #[.int .i64 x] 3)); clear Hnb; have Hnb := Hnb'; clear Hnb'
  have Hm' := Lib.hid (block_alloc Hm.out (.cells #[.int .i64 x] 3)); clear Hm; have Hm := Hm'; clear Hm'
  have Hn' := Lib.hid (block_alloc Hn.out (.cells #[.int .i64 x] 3)); clear Hn; have Hn := Hn'; clear Hn'
  have HB' := below_alloc (o := .cells #[.int .i64 x] 3) HB; clear HB; have HB := HB'; clear HB'
  have HBs : Hid (∀ W, W = ((((w1.alloc (.cells #[.func (Fn.func 32) #[] #[.pointer (some ⟨w.heap.size, 0, none⟩), .pointer (some ⟨w.heap.size + 1, 0, none⟩)]] 97)).alloc (.cells #[.int .i64 2] 3)).alloc (.cells #[.func (Fn.func 32) #[] #[.pointer (some ⟨w.heap.size, 0, none⟩), .pointer (some ⟨w.heap.size + 1, 0, none⟩)]] 97)).alloc (.cells #[.int .i64 x] 3)) → Calls Tryz.prog 34 #[.func (Fn.func 83) #[] #[.pointer (some ⟨w1.heap.size + 1, 0, none⟩), .pointer (some ⟨w1.heap.size + 1 + 1, 0, none⟩), .pointer (some ⟨w1.heap.size + 1 + 1 + 1, 0, none⟩)], .func (Fn.func 33) #[] #[.pointer (some ⟨w1.heap.size, 0, none⟩)]] W fun e w' => e = .returned (.tuple #[.int .i64 1, .bool true]) ∧ Below W.heap.size W w') := Lib.hid (by
    rintro W rfl
    exact best_any 2 (by omega) x (by omega) _ _ _ _ _ _ (fun k : Nat => if k = 0 then (167772160 : Int) else 0) (fun k : Nat => if k = 0 then (24 : Int) else 0) _ ⟨(cell_of_box Hm.out).1, (cell_of_box Hn.out).1, (cell_of_box Hx.out).1⟩ (fun k W' hk hb => by
      have hk2 : k = 0 ∨ k = 1 := by omega
      rcases hk2 with rfl | rfl
      · exact net0_any _ _ g c mac mtu W' (bblock hb Hfb.out) (bblock hb Hf.out)
      · exact net1_any _ _ g c h cr W' (bblock hb Hfb.out) (bblock hb Hrb.out) (bblock hb Hr.out)) HIn.out)
  go_wp2_with fail
  refine (HBs.out _ rfl).mono ?_
  rintro e w2 ⟨rfl, hb⟩
  have Hf' := Lib.hid (bblock hb Hf.out); clear Hf; have Hf := Hf'; clear Hf'
  have Hr' := Lib.hid (bblock hb Hr.out); clear Hr; have Hr := Hr'; clear Hr'
  have Hfb' := Lib.hid (bblock hb Hfb.out); clear Hfb; have Hfb := Hfb'; clear Hfb'
  have Hrb' := Lib.hid (bblock hb Hrb.out); clear Hrb; have Hrb := Hrb'; clear Hrb'
  have Hnb' := Lib.hid (bblock hb Hnb.out); clear Hnb; have Hnb := Hnb'; clear Hnb'
  have Hm' := Lib.hid (bblock hb Hm.out); clear Hm; have Hm := Hm'; clear Hm'
  have Hn' := Lib.hid (bblock hb Hn.out); clear Hn; have Hn := Hn'; clear Hn'
  have Hx' := Lib.hid (bblock hb Hx.out); clear Hx; have Hx := Hx'; clear Hx'
  have HB' := below_call HB hb; clear HB hb; have HB := HB'; clear HB'; have hz2 := HB.size
  have lt_f_2 := blk_lt Hf.out
  have lt_r_2 := blk_lt Hr.out
  have lt_fb_2 := blk_lt Hfb.out
  have lt_rb_2 := blk_lt Hrb.out
  have lt_nb_2 := blk_lt Hnb.out
  have lt_m_2 := blk_lt Hm.out
  have lt_n_2 := blk_lt Hn.out
  have lt_x_2 := blk_lt Hx.out
  clear HBs
  clear Hm Hn Hx
  have Sfb := cell_of_box Hfb.out
  obtain ⟨qfb0, zfb0⟩ := Sfb
  have lt_fb := blk_lt Hfb.out
  have Srb := cell_of_box Hrb.out
  obtain ⟨qrb0, zrb0⟩ := Srb
  have lt_rb := blk_lt Hrb.out
  have Sr := cells4 Hr.out
  obtain ⟨⟨qr0, qr1, qr2, qr3⟩, zr0, zr1, zr2, zr3⟩ := Sr
  have lt_r := blk_lt Hr.out
  go_upto_region 15 with fail
  go_quiet (fail)
  go_wp2_with fail
  go_ret3
  exact ⟨rfl, below_drewN HB _⟩
end Go.Proofs.YtmgjcjacoegocaaGreatDoor.Rt
