/-
  A list of calls as an argument, the contract of lower, and the walk of the law ICMPPathMTUNeverGrows.
-/
import Derived.Test.YtmcfllogcmnnoaaDoorIcA
import Derived.Deep.SlicePairs
import Derived.ChangeArms
import Derived.OpenShut
import Derived.BigQuiet
import Derived.OwnWalk
namespace Go.Proofs.YtmcfllogcmnnoaaDoor.Ic
set_option maxRecDepth 100000
open Go.RowKit Go.Proofs.YtmcfllogcmnnoaaDoor.Wire Go.Deep Go.ChangeShapes Go.WideShapes
open Go.Proofs.YtmcfllogcmnnoaaDoor.Ip (In64)

structure Cl where
  kind : Int
  later : Int
  tt : Int
  n : Int
instance : Inhabited Cl := ⟨⟨0, 0, 0, 0⟩⟩
/-- the slice at A of k elements came in; it holds the calls l -/
def ArgC (W : World) (A : Option Addr) (k : Nat) (l : List Cl) : Prop :=
  l.length = k ∧ k ≤ maxLen ∧ (∀ x ∈ l, In64 x.kind ∧ In64 x.later ∧ In64 x.tt ∧ In64 x.n) ∧
  (0 < k → ∃ b o, A = some ⟨b, o, none⟩ ∧ ∀ (i : Nat) (x : Cl), l[i]? = some x → W.cell? ⟨b, o + i * 4, none⟩ = some (.int .i64 x.kind) ∧ W.cell? ⟨b, o + i * 4 + 1, none⟩ = some (.int .i64 x.later) ∧ W.cell? ⟨b, o + i * 4 + 2, none⟩ = some (.int .i64 x.tt) ∧ W.cell? ⟨b, o + i * 4 + 3, none⟩ = some (.int .i64 x.n))
theorem ArgC.at_ {W : World} {A : Option Addr} {k : Nat} {l : List Cl} (h : ArgC W A k l) (i : Nat) (hi : i < k) : ∃ b o x, A = some ⟨b, o, none⟩ ∧ l[i]? = some x ∧ b < W.heap.size ∧ (In64 x.kind ∧ In64 x.later ∧ In64 x.tt ∧ In64 x.n) ∧
    W.cell? ⟨b, o + i * 4, none⟩ = some (.int .i64 x.kind) ∧ W.cell? ⟨b, o + i * 4 + 1, none⟩ = some (.int .i64 x.later) ∧ W.cell? ⟨b, o + i * 4 + 2, none⟩ = some (.int .i64 x.tt) ∧ W.cell? ⟨b, o + i * 4 + 3, none⟩ = some (.int .i64 x.n) := by
  obtain ⟨hl, -, hin, hx⟩ := h
  obtain ⟨b, o, e, hc⟩ := hx (by omega)
  have hi' : l[i]? = some l[i] := List.getElem?_eq_getElem (by omega)
  obtain ⟨c0, c1, c2, c3⟩ := hc i _ hi'
  exact ⟨b, o, _, e, hi', World.block_lt_of_cell? W _ c0, hin _ (List.getElem_mem _), c0, c1, c2, c3⟩
theorem ArgC.size {W : World} {A : Option Addr} {k : Nat} {l : List Cl} (h : ArgC W A k l) : k ≤ 9223372036854775807 := by have := h.2.1; unfold maxLen at this; omega
theorem open_calls {H : Type} {enc : TypeId × Value → H} {W : World} {n : Nat} {v : Value} {y : DataW H × List MemPlace}
    (h : DataW.trod enc Tryd.prog W 0 (fun _ => true) true n 51 [v] = some y) : ∃ (A : Option Addr) (k c : Nat) (l : List Cl), v = .slice A k c ∧ ArgC W A k l := by
  rcases open_slice Tryd.underlying51 h with ⟨hv, -⟩ | ⟨a, len, cap, m, n', D, Pl, hv, -, hl, hm, hmm, -, hx⟩
  · simp only [List.cons.injEq, and_true] at hv
    exact ⟨none, 0, 0, [], hv, rfl, Nat.zero_le _, fun x hx => (by cases hx), fun q => absurd q (by omega)⟩
  · simp only [List.cons.injEq, and_true] at hv
    have hlm : len ≤ m := by rw [hmm]; split <;> omega
    have ce : Tryd.prog.cellsOf 59 = 4 := by kernel_rfl
    have ci : Tryd.prog.cellsOf 3 = 1 := by kernel_rfl
    have each : ∀ i, i < m → ∃ q : Cl, (In64 q.kind ∧ In64 q.later ∧ In64 q.tt ∧ In64 q.n) ∧ W.cell? (a.add (i * 4)) = some (.int .i64 q.kind) ∧ W.cell? (a.add (i * 4 + 1)) = some (.int .i64 q.later) ∧ W.cell? (a.add (i * 4 + 2)) = some (.int .i64 q.tt) ∧ W.cell? (a.add (i * 4 + 3)) = some (.int .i64 q.n) := by
      intro i hi
      obtain ⟨cs', h1, h2⟩ := hx i hi
      rw [ce] at h1
      obtain ⟨_, hlen, hcell⟩ := World.cells?_some h1
      obtain ⟨xs, k, hk, hxy, _, hxl, hf⟩ := DataW.trod_struct Tryd.underlying59 h2
      match xs, hxl, cs', hlen with
      | [y0, y1, y2, y3], _, [v0, v1, v2, v3], _ =>
        have g0 := hf 0 _ rfl
        have g1 := hf 1 _ rfl
        have g2 := hf 2 _ rfl
        have g3 := hf 3 _ rfl
        simp [ci] at g0 g1 g2 g3
        have e0 := hcell 0 (by omega)
        have e1 := hcell 1 (by omega)
        have e2 := hcell 2 (by omega)
        have e3 := hcell 3 (by omega)
        rw [add_add] at e0 e1 e2 e3
        obtain ⟨a0, q0, -, w0⟩ := DataW.trod_int Tryd.underlying3 g0
        obtain ⟨a1, q1, -, w1⟩ := DataW.trod_int Tryd.underlying3 g1
        obtain ⟨a2, q2, -, w2⟩ := DataW.trod_int Tryd.underlying3 g2
        obtain ⟨a3, q3, -, w3⟩ := DataW.trod_int Tryd.underlying3 g3
        simp only [List.cons.injEq, and_true] at q0 q1 q2 q3
        subst q0 q1 q2 q3
        exact ⟨⟨a0, a1, a2, a3⟩, ⟨bounds_i64 w0, bounds_i64 w1, bounds_i64 w2, bounds_i64 w3⟩, by simpa using e0, by simpa using e1, by simpa using e2, by simpa using e3⟩
    obtain ⟨q, hq⟩ := choose_lt each
    refine ⟨some a, len, cap, (List.range len).map q, hv, by simp, Nat.le_trans hl hm, ?_, fun h0 => ?_⟩
    · intro x hx
      obtain ⟨i, hi, rfl⟩ := List.mem_map.1 hx
      have hi := List.mem_range.1 hi
      exact (hq i (by omega)).1
    · have hs : a.spot = none := by
        have := (hq 0 (by omega)).2.1
        unfold World.cell? at this
        cases hsp : a.spot with
        | none => rfl
        | some z => simp [Addr.add, hsp] at this; split at this <;> cases this
      obtain ⟨b, o, sp⟩ := a
      simp only at hs
      subst hs
      refine ⟨b, o, rfl, fun i x hi => ?_⟩
      rw [List.getElem?_map] at hi
      have hil : i < len := by
        rcases Nat.lt_or_ge i len with q' | q'
        · exact q'
        · rw [List.getElem?_eq_none (by simpa using q')] at hi; cases hi
      rw [List.getElem?_range hil] at hi
      simp only [Option.map_some, Option.some.injEq] at hi
      subst hi
      obtain ⟨-, c0, c1, c2, c3⟩ := hq i (by omega)
      rw [Addr.add_lit] at c0 c1 c2 c3
      exact ⟨c0, by rw [Nat.add_assoc]; exact c1, by rw [Nat.add_assoc]; exact c2, by rw [Nat.add_assoc]; exact c3⟩
end Go.Proofs.YtmcfllogcmnnoaaDoor.Ic

namespace Go.Proofs.YtmcfllogcmnnoaaDoor.Ic
set_option maxRecDepth 100000
open Go.RowKit Go.Proofs.YtmcfllogcmnnoaaDoor.Wire Go.Proofs.YtmcfllogcmnnoaaDoor.Gen
open Go.Proofs.YtmcfllogcmnnoaaDoor.Ip (In64)

def lwNow (now : Int) (x : Cl) : Int := if x.kind = 0 then now else if x.kind = 1 then now else x.n
def lwTo (x : Cl) : Int := if x.kind = 0 then 1 + pick x.tt 24 else if x.kind = 1 then x.tt else 1 + pick x.tt 24
def lwSize (x : Cl) : Int := if x.kind = 0 then 68 + pick x.n 957 else if x.kind = 1 then x.n else 68 + pick x.tt 957
set_option maxHeartbeats 2000000 in
theorem lw_any (now : Int) (x : Cl) (w : World) (h1 : In64 x.tt) (h2 : In64 x.n) :
    Calls Tryd.prog 29 #[.int .i64 now, .agg #[.int .i64 x.kind, .int .i64 x.later, .int .i64 x.tt, .int .i64 x.n]] w fun e w' => e = .returned (.tuple #[.int .i64 (lwNow now x), .int .i64 (lwTo x), .int .i64 (lwSize x)]) ∧ Below w.heap.size w w' := by
  have P1 := Lib.hid fun W => pick8_any x.tt 24 W h1 (by omega) (by omega)
  have P2 := Lib.hid fun W => pick8_any x.n 957 W h2 (by omega) (by omega)
  have P3 := Lib.hid fun W => pick8_any x.tt 957 W h1 (by omega) (by omega)
  have b1 := pick_lt x.tt 24 (by omega)
  have b2 := pick_lt x.n 957 (by omega)
  have b3 := pick_lt x.tt 957 (by omega)
  unfold lwNow lwTo lwSize
  have HM := Lib.hid (alloc_new w (.cells #[.int .i64 x.kind, .int .i64 x.later, .int .i64 x.tt, .int .i64 x.n] 59))
  have HB := below_alloc (o := .cells #[.int .i64 x.kind, .int .i64 x.later, .int .i64 x.tt, .int .i64 x.n] 59) (Below.refl w.heap.size w)
  obtain ⟨⟨c0, c1, c2, c3⟩, -⟩ := cells4 HM.out
  clear h1 h2
  generalize pick x.tt 24 = p1 at *
  generalize pick x.n 957 = p2 at *
  generalize pick x.tt 957 = p3 at *
  have w1 : IntKind.i64.wrap (1 + p1) = 1 + p1 := IntWalk.i64_in _ (by omega)
  have w2 : IntKind.i64.wrap (68 + p2) = 68 + p2 := IntWalk.i64_in _ (by omega)
  have w3 : IntKind.i64.wrap (68 + p3) = 68 + p3 := IntWalk.i64_in _ (by omega)
  by_cases hk0 : x.kind = 0
  · simp only [if_pos hk0]
    have hq : (x.kind == 0) = true := beq_iff_eq.2 hk0
    clear hk0
    go_enter Tryd.func29, Tryd.ntmps29
    go_wp2_with fail
    go_quiet (first | (go_at_call 23; with_reducible exact Calls.quiet_of_same (P1.out _)) | (go_at_call 23; with_reducible exact Calls.quiet_of_same (P2.out _)))
    go_wp2_with fail
    go_ret3
    exact ⟨rfl, below_drewN HB _⟩
  · simp only [if_neg hk0]
    have hq : (x.kind == 0) = false := beq_eq_false_iff_ne.2 hk0
    clear hk0
    by_cases hk1 : x.kind = 1
    · simp only [if_pos hk1]
      have hq1 : (x.kind == 1) = true := beq_iff_eq.2 hk1
      clear hk1
      go_enter Tryd.func29, Tryd.ntmps29
      go_wp2_with fail
      go_quiet (fail)
      go_wp2_with fail
      go_ret3
      exact ⟨rfl, below_drewN HB _⟩
    · simp only [if_neg hk1]
      have hq1 : (x.kind == 1) = false := beq_eq_false_iff_ne.2 hk1
      clear hk1
      go_enter Tryd.func29, Tryd.ntmps29
      go_wp2_with fail
      go_quiet (first | (go_at_call 23; with_reducible exact Calls.quiet_of_same (P1.out _)) | (go_at_call 23; with_reducible exact Calls.quiet_of_same (P3.out _)))
      go_wp2_with fail
      go_ret3
      exact ⟨rfl, below_drewN HB _⟩
end Go.Proofs.YtmcfllogcmnnoaaDoor.Ic

namespace Go.Proofs.YtmcfllogcmnnoaaDoor.Ic
set_option maxRecDepth 100000
open Go.RowKit Go.Proofs.YtmcfllogcmnnoaaDoor.Wire Go.Proofs.YtmcfllogcmnnoaaDoor.Gen
open Go.Proofs.YtmcfllogcmnnoaaDoor.Ip (In64)

set_option maxHeartbeats 8000000 in
theorem grows_law (A : Option Addr) (n c : Nat) (l : List Cl) (a0 a1 : Addr) (w : World) (hg : GlE w a0 a1) (hA : ArgC w A n l) :
    Calls Tryd.prog 10 #[.slice A n c] w fun e w' => e = .returned (.bool true) ∧ Below w.heap.size w w' := by
  have HS := Lib.hid (sane_any a0 a1 w hg)
  have HA := Lib.hid hA
  have hn := hA.size
  clear hg hA
  go_enter Tryd.func10, Tryd.ntmps10
  go_wp2_with (first | (go_at_call 13; (with_reducible refine HS.out.mono ?_); rintro e v1 ⟨rfl, hb1⟩) | (go_at_call 28; (with_reducible refine (own_new _).mono ?_); rintro e v2 ⟨rfl, hO⟩))
  go_loopw [5, 6, 7, 8, 9, 10, 11, 12, 13] (fun nw i _ _ _ _ _ _ _ wr => ∃ (k : Nat) (t : Int) (tb : List En), k ≤ n ∧ k ≤ 60 ∧ i = .int .i64 (k : Int) ∧ nw = .int .i64 t ∧ 0 ≤ t ∧ t ≤ 90 * (k : Int) ∧ Own v1.heap.size v1.heap.size tb v1 wr) (fun _ i _ _ _ _ _ _ _ _ => 60 - (Go.RowKit.intOf i).toNat)
  case atStart => exact ⟨0, 0, [], by omega, by omega, rfl, rfl, by omega, by omega, hO⟩
  case round =>
    clear hO
    obtain ⟨k, t, tb, hkn, hk60, rfl, rfl, ht0, ht1, hO⟩ := hrel
    have HO := Lib.hid hO
    have HB := Lib.hid (below_call hb1 hO.below)
    clear hO
    by_cases hlt : k < n
    · by_cases hlt2 : k < 60
      · obtain ⟨b, o, x, rfl, hx, hbl, ⟨i0, i1, i2, i3⟩, c0, c1, c2, c3⟩ := HA.out.at_ k hlt
        have k1 : (0 : Int) ≤ (k : Int) := by omega
        have k2 : (k : Int) < (n : Int) := by omega
        have k3 : (k : Int) < 60 := by omega
        have d0 := (HB.out.cell (p := ⟨b, o + k * 4, none⟩) hbl).trans c0
        have d1 := (HB.out.cell (p := ⟨b, o + k * 4 + 1, none⟩) hbl).trans c1
        have d2 := (HB.out.cell (p := ⟨b, o + k * 4 + 2, none⟩) hbl).trans c2
        have d3 := (HB.out.cell (p := ⟨b, o + k * 4 + 3, none⟩) hbl).trans c3
        have HX := Lib.hid hx; clear hx c0 c1 c2 c3
        have P1 := Lib.hid fun W => pick8_any x.later 90 W i1 (by omega) (by omega)
        have b1 := pick_lt x.later 90 (by omega)
        have LW := Lib.hid fun (now : Int) W => lw_any now { x with kind := 0 } W i2 i3
        have lt_ : lwTo { x with kind := 0 } = 1 + pick x.tt 24 := rfl
        have ls_ : lwSize { x with kind := 0 } = 68 + pick x.n 957 := rfl
        have b2 := pick_lt x.tt 24 (by omega)
        have b3 := pick_lt x.n 957 (by omega)
        have hln : ∀ now, lwNow now { x with kind := 0 } = now := fun now => rfl
        generalize lwTo { x with kind := 0 } = dst at *
        generalize lwSize { x with kind := 0 } = sz at *
        have hdst : 1 ≤ dst ∧ dst ≤ 24 := by omega
        have hsz : 68 ≤ sz ∧ sz ≤ 1024 := by omega
        simp only [hln] at LW
        clear i0 i1 i2 i3 lt_ ls_ b2 b3 hln
        generalize pick x.later 90 = pl at *
        have wl : IntKind.i64.wrap (t + pl) = t + pl := IntWalk.i64_in _ (by omega)
        have hok : lowOk (t + pl) dst sz := by unfold lowOk; omega
        obtain ⟨g1, g2, g3⟩ := grows HO.out.kept (t + pl) dst sz hok
        have G1 := Lib.hid g1
        have hl16 := lowL_len HO.out.kept (t + pl) dst sz
        have HZ := Lib.hid fun W (h : Own v1.heap.size v1.heap.size tb v1 W) => own_size (t + pl) dst 2000 h
        have HL := Lib.hid fun W (h : Own v1.heap.size v1.heap.size tb v1 W) => own_lower (t + pl) dst sz h
        have HZ2 := Lib.hid fun W (h : Own v1.heap.size v1.heap.size (lowL tb (t + pl) dst sz) v1 W) => own_size (t + pl) dst 2000 h
        have HN := Lib.hid fun W (h : Own v1.heap.size v1.heap.size (lowL tb (t + pl) dst sz) v1 W) => own_len h
        rw [g2] at HZ2 g3
        clear g1 g2
        generalize lowB tb (t + pl) dst sz = bb at *
        generalize lowL tb (t + pl) dst sz = tb2 at *
        generalize sizeE tb (t + pl) dst 2000 = V at *
        have hlz : (tb2.length : Int) ≤ 16 := by omega
        have hbx := below_alloc (o := .cells #[.int .i64 0, .int .i64 x.later, .int .i64 x.tt, .int .i64 x.n] 59) (Below.refl wr.heap.size wr)
        cases bb with
        | true =>
          rw [if_pos rfl] at HZ2 g3
          have g1 : sz < V := of_decide_eq_true G1.out.symm
          go_wp2_with (first | (go_at_call 32; have _t := hO3; clear _t; (with_reducible refine (HN.out _ hO3).mono ?_); rintro e u4 ⟨rfl, hO4⟩) | (go_at_call 33; have _t := hO2; clear _t; (with_reducible refine (HZ2.out _ hO2).mono ?_); rintro e u3 ⟨rfl, hO3⟩) | (go_at_call 30; have _t := hO1; clear _t; (with_reducible refine (HL.out _ hO1).mono ?_); rintro e u2 ⟨rfl, hO2⟩) | (go_at_call 33; have _t := hO0; clear _t; (with_reducible refine (HZ.out _ hO0).mono ?_); rintro e u1 ⟨rfl, hO1⟩) | (go_at_call 29; (with_reducible refine (LW.out _ _).mono ?_); rintro e u0 ⟨rfl, hu0⟩; have hO0 := HO.out.later (below_call hbx hu0)) | (go_at_call 23; (with_reducible refine (P1.out _).mono ?_); rintro e w' ⟨rfl, rfl⟩))
          exact ⟨⟨k + 1, t + pl, tb2, by omega, by omega, by go_num, rfl, by omega, by omega, hO4⟩, by simp [Go.RowKit.intOf]; omega⟩
        | false =>
          rw [if_neg (by decide)] at HZ2 g3
          have g1 : ¬ sz < V := of_decide_eq_false G1.out.symm
          have hv1 : (V != V) = false := by simp
          have hv2 : ¬ V < V := by omega
          go_wp2_with (first | (go_at_call 32; have _t := hO3; clear _t; (with_reducible refine (HN.out _ hO3).mono ?_); rintro e u4 ⟨rfl, hO4⟩) | (go_at_call 33; have _t := hO2; clear _t; (with_reducible refine (HZ2.out _ hO2).mono ?_); rintro e u3 ⟨rfl, hO3⟩) | (go_at_call 30; have _t := hO1; clear _t; (with_reducible refine (HL.out _ hO1).mono ?_); rintro e u2 ⟨rfl, hO2⟩) | (go_at_call 33; have _t := hO0; clear _t; (with_reducible refine (HZ.out _ hO0).mono ?_); rintro e u1 ⟨rfl, hO1⟩) | (go_at_call 29; (with_reducible refine (LW.out _ _).mono ?_); rintro e u0 ⟨rfl, hu0⟩; have hO0 := HO.out.later (below_call hbx hu0)) | (go_at_call 23; (with_reducible refine (P1.out _).mono ?_); rintro e w' ⟨rfl, rfl⟩))
          exact ⟨⟨k + 1, t + pl, tb2, by omega, by omega, by go_num, rfl, by omega, by omega, hO4⟩, by simp [Go.RowKit.intOf]; omega⟩
      · have k2 : (k : Int) < (n : Int) := by omega
        have k3 : ¬ (k : Int) < 60 := by omega
        go_wp2_with fail
        go_ret
        exact ⟨rfl, HB.out⟩
    · have k2 : ¬ (k : Int) < (n : Int) := by omega
      go_wp2_with fail
      go_ret
      exact ⟨rfl, HB.out⟩
end Go.Proofs.YtmcfllogcmnnoaaDoor.Ic
