/-
  Contracts of the small functions of package arp: aged, New, request, Known.
-/
import Derived.Test.YtmgjcjacoegocaaDoorArTab
import Derived.RegionTactic
import Derived.Deep.DeepCutAuto
import Derived.Deep.RegionHeld3
import Derived.BigQuiet
import Derived.WalkMore
namespace Go.Proofs.YtmgjcjacoegocaaDoor.Ar
set_option maxRecDepth 100000
open Go.RowKit Go.Proofs.YtmgjcjacoegocaaDoor.Wire

def agedB (now at_ span : Int) : Bool := decide (at_ ≤ now ∧ span ≤ now - at_)
theorem age_eq (now st : Int) (h1 : In64 now) (h2 : In64 st) (h : st ≤ now) : IntKind.u64.wrap (IntKind.u64.wrap now - IntKind.u64.wrap st) = now - st := by
  unfold In64 at *
  simp only [IntKind.wrap_u64]; omega
theorem aged_any (now at_ span : Int) (h1 : In64 now) (h2 : In64 at_) (w : World) : Calls Tryd.prog 57 #[.int .i64 now, .int .i64 at_, .int .u64 span] w fun e w' => e = .returned (.bool (agedB now at_ span)) ∧ w = w' := by
  by_cases h : at_ ≤ now
  · have e := age_eq now at_ h1 h2 h
    have d : decide (at_ ≤ now) = true := decide_eq_true h
    clear h1 h2
    go_enter Tryd.func57, Tryd.ntmps57
    go_wp2_with fail
    all_goals
      go_ret
      refine ⟨ret_bool ?_, rfl⟩
      unfold agedB
      rw [Bool.eq_iff_iff]; simp; try omega
  · have d : decide (at_ ≤ now) = false := decide_eq_false h
    go_enter Tryd.func57, Tryd.ntmps57
    go_wp2_with fail
    all_goals
      go_ret
      refine ⟨ret_bool ?_, rfl⟩
      unfold agedB
      symm; exact decide_eq_false (fun q => by omega)
theorem cellsT {W : World} {T : Nat} {m : Option Nat} {es : Array MapEntry} {clk : Nat} {c : Tc} {L : List En} (h : Tab W T m es clk c L) :
    W.cell? ⟨T, 0, none⟩ = some (.int .i64 c.own) ∧ W.cell? ⟨T, 1, none⟩ = some (.int .i64 c.mac) ∧ W.cell? ⟨T, 2, none⟩ = some (.map m) ∧ W.cell? ⟨T, 3, none⟩ = some (.bool c.ann) ∧ W.cell? ⟨T, 4, none⟩ = some (.int .i64 c.at_) := (cells5 h.tab).1
set_option maxHeartbeats 4000000 in
theorem request_any (T : Nat) (m : Option Nat) (es : Array MapEntry) (clk : Nat) (c : Tc) (L : List En) (to_ : Int) (w : World) (h : Tab w T m es clk c L) :
    Calls Tryd.prog 58 #[.pointer (some ⟨T, 0, none⟩), .int .i64 to_] w fun e w' => e = .returned (.agg #[.int .i64 1, .int .i64 c.own, .int .i64 c.mac, .int .i64 to_, .int .i64 0]) ∧ Below w.heap.size w w' := by
  obtain ⟨q0, q1, -⟩ := cellsT h
  have lt := blk_lt h.tab
  clear h
  go_enter Tryd.func58, Tryd.ntmps58
  go_upto_region 1 with fail
  go_region
  all_goals
    have HZ := Lib.hid (alloc_new w (.cells #[.int .i64 1, .int .i64 c.own, .int .i64 c.mac, .int .i64 to_, .int .i64 0] 52))
    go_wp2_with fail
    refine bodyPost_ret (v := .agg #[.int .i64 1, .int .i64 c.own, .int .i64 c.mac, .int .i64 to_, .int .i64 0]) (res_cell1 Tryd.results58 (by exact HZ.out) rfl Tryd.underlying52 rfl (by kernel_rfl)) rfl ?_
    exact ⟨rfl, (below_alloc (Below.refl _ _)).drew⟩
theorem new_any (own mac : Int) (w : World) : Calls Tryd.prog 16 #[.int .i64 own, .int .i64 mac] w fun e w' =>
    (uniB own = true ∧ umacB mac = true ∧ e = .returned (.tuple #[.pointer (some ⟨w.heap.size, 0, none⟩), .int .i64 0]) ∧ w' = w.alloc (.cells #[.int .i64 own, .int .i64 mac, .map none, .bool false, .int .i64 0] 102)) ∨
    ((uniB own = false ∨ umacB mac = false) ∧ e = .returned (.tuple #[.pointer none, .int .i64 50]) ∧ w = w') := by
  have H1 := Lib.hid (uni_any own); have H2 := Lib.hid (umac_any mac)
  generalize uniB own = b1 at *
  generalize umacB mac = b2 at *
  go_enter Tryd.func16, Tryd.ntmps16
  cases b1 <;> cases b2
  all_goals
    go_wp2_with (first | (go_at_call 43; (with_reducible refine (H1.out _).mono ?_); rintro e w' ⟨rfl, rfl⟩) | (go_at_call 44; (with_reducible refine (H2.out _).mono ?_); rintro e w' ⟨rfl, rfl⟩))
  all_goals
    go_ret2
    first | exact ⟨rfl, rfl⟩ | exact .inl ⟨rfl, rfl, rfl, rfl⟩ | exact .inr ⟨.inl rfl, rfl, rfl⟩ | exact .inr ⟨.inr rfl, rfl, rfl⟩
/-- which kind of entry is it? -/
theorem ta_rr (v : Value) (w : World) : (Instr.typeAssert (.iface 126 v) 124 126 true).run Tryd.prog w = .ok (.tuple #[v, .bool true]) w := by kernel_rfl
theorem ta_ri (v : Value) (w : World) : (Instr.typeAssert (.iface 125 v) 124 126 true).run Tryd.prog w = .ok (.tuple #[.pointer none, .bool false]) w := by kernel_rfl
theorem ta_rn (w : World) : (Instr.typeAssert .nilIface 124 126 true).run Tryd.prog w = .ok (.tuple #[.pointer none, .bool false]) w := by kernel_rfl
theorem ta_ii (v : Value) (w : World) : (Instr.typeAssert (.iface 125 v) 124 125 true).run Tryd.prog w = .ok (.tuple #[v, .bool true]) w := by kernel_rfl
theorem ta_ir (v : Value) (w : World) : (Instr.typeAssert (.iface 126 v) 124 125 true).run Tryd.prog w = .ok (.tuple #[.pointer none, .bool false]) w := by kernel_rfl
theorem ta_in (w : World) : (Instr.typeAssert .nilIface 124 125 true).run Tryd.prog w = .ok (.tuple #[.pointer none, .bool false]) w := by kernel_rfl
theorem find_key {L : List En} (hn : (L.map (·.k)).Nodup) {j : Nat} {x : En} (hj : L[j]? = some x) : L.find? (fun y => decide (y.k = x.k)) = some x := by
  obtain ⟨hl, rfl⟩ := List.getElem?_eq_some_iff.1 hj
  rw [List.find?_eq_some_iff_getElem]
  refine ⟨by simp, j, hl, rfl, fun i hi => ?_⟩
  have := (List.pairwise_iff_getElem.1 hn) i j (by simp; omega) (by simpa using hl) hi
  simpa using this
/-- what Known answers -/
def knownV (v : Option Ev) : Value := match v with | some (.res mac _ _) => .tuple #[.int .i64 mac, .bool true] | _ => .tuple #[.int .i64 0, .bool false]
set_option maxHeartbeats 4000000 in
theorem known_any (T : Nat) (m : Option Nat) (es : Array MapEntry) (clk : Nat) (c : Tc) (L : List En) (to_ : Int) (w : World) (h : Tab w T m es clk c L) :
    Calls Tryd.prog 39 #[.pointer (some ⟨T, 0, none⟩), .int .i64 to_] w fun e w' => e = .returned (knownV ((L.find? (fun x => decide (x.k = to_))).map (·.v))) ∧ w = w' := by
  obtain ⟨-, -, q2, -⟩ := cellsT h
  have t1 := ta_rr; have t2 := ta_ri; have t3 := ta_rn
  by_cases hk : to_ ∈ L.map (·.k)
  · obtain ⟨x, hx, rfl⟩ := List.mem_map.1 hk
    obtain ⟨j, hj⟩ := List.getElem?_of_mem hx
    have hf : L.find? (fun y => decide (y.k = x.k)) = some x := find_key h.nod hj
    rw [hf]
    have hl := h.look_some hj
    have hok := h.ok x hx
    obtain ⟨k, v, eb, Hb, hc⟩ := x
    cases v with
    | inc held sent first last =>
      unfold En.val Ev.ty at hl
      clear h hk hx hj hf
      go_enter Tryd.func39, Tryd.ntmps39
      go_wp2_with fail
      go_ret2
      exact ⟨rfl, rfl⟩
    | res mac since used =>
      unfold En.val Ev.ty at hl
      obtain ⟨r0, -, -⟩ := (cells3 hok.1).1
      clear h hk hx hj hf hok
      go_enter Tryd.func39, Tryd.ntmps39
      go_wp2_with fail
      go_ret2
      exact ⟨rfl, rfl⟩
  · have hf : L.find? (fun y => decide (y.k = to_)) = none := by
      rw [List.find?_eq_none]
      intro y hy; simp; rintro rfl; exact hk (List.mem_map_of_mem hy)
    rw [hf]
    have hl := h.look_none to_ hk
    clear h hk hf
    go_enter Tryd.func39, Tryd.ntmps39
    go_wp2_with fail
    go_ret2
    exact ⟨rfl, rfl⟩
theorem known_nil (to_ : Int) (w : World) : Calls Tryd.prog 39 #[.pointer none, .int .i64 to_] w fun e w' => e = .returned (.tuple #[.int .i64 0, .bool false]) ∧ w = w' := by
  go_enter Tryd.func39, Tryd.ntmps39
  go_wp2_with fail
  go_ret2
  exact ⟨rfl, rfl⟩
end Go.Proofs.YtmgjcjacoegocaaDoor.Ar
