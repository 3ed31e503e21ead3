/-
  The contract of udp.Decode.
-/
import Derived.Test.YteaihpiilimkcaaUdp3
namespace Go.Proofs.Yteaihpiilimkcaa.Udp
open Go.RowKit Go.Proofs.Yteaihpiilimkcaa.Wire

theorem catchD_panicking (b : Nat) (x : ByteArray) (n0 n1 y : Int) (u : TypeId) (pv : Value) (w : World) (hc0 : w.cell? ⟨b, 0, none⟩ = some (.int .i64 n0)) (hz0 : w.frozen? ⟨b, 0, none⟩ = false) (hc1 : w.cell? ⟨b, 1, none⟩ = some (.int .i64 n1)) (hz1 : w.frozen? ⟨b, 1, none⟩ = false)
    (hc2 : w.cell? ⟨b, 2, none⟩ = some (.string x)) (hz2 : w.frozen? ⟨b, 2, none⟩ = false) (hc3 : w.cell? ⟨b + 1, 0, none⟩ = some (.int .i64 y)) (hz3 : w.frozen? ⟨b + 1, 0, none⟩ = false) :
    CallsD Try.prog 23 #[.pointer (some ⟨b, 0, none⟩), .pointer (some ⟨b + 1, 0, none⟩)] (.panicking [{ v := .iface u pv, recovered := false }]) w fun e u' w' =>
      e = .returned (.tuple #[]) ∧ u' = .panicking [{ v := .iface u pv, recovered := true }] ∧ w' = (((w.setCell ⟨b, 0, none⟩ (.int .i64 0)).setCell ⟨b, 1, none⟩ (.int .i64 0)).setCell ⟨b, 2, none⟩ (.string ⟨#[]⟩)).setCell ⟨b + 1, 0, none⟩ (.int .i64 100) := by
  have hc4 : (((w.setCell ⟨b, 0, none⟩ (.int .i64 0)).setCell ⟨b, 1, none⟩ (.int .i64 0)).setCell ⟨b, 2, none⟩ (.string ⟨#[]⟩)).cell? ⟨b + 1, 0, none⟩ = some (.int .i64 y) := by
    rw [World.cell?_setCell_other _ _ _ _ (by simp), World.cell?_setCell_other _ _ _ _ (by simp), World.cell?_setCell_other _ _ _ _ (by simp)]; exact hc3
  refine callsD_of_wpS Try.func23 rfl fun c₀ cs hu => ?_
  apply wpS_seq
  apply wpS_region
  simp [wpOpsS, go_sem, recoverD, hu, Try.ntmps23, Exit.thenS]
  refine wpS_of_wp ?_
  simp only [Array.replicate, List.replicate_succ, List.replicate_zero, List.setIfInBounds_toArray, List.set_cons_zero, List.set_cons_succ, List.append_toArray, List.cons_append, List.nil_append]
  go_wp2
  exact ⟨rfl, _, rfl, _, results_none rfl _ _ _, rfl, rfl, rfl⟩

theorem catchD_idle (p q : Addr) (w : World) :
    CallsD Try.prog 23 #[.pointer (some p), .pointer (some q)] .returning w fun e u' w' => e = .returned (.tuple #[]) ∧ u' = .returning ∧ w' = w := by
  refine callsD_of_wpS Try.func23 rfl fun c₀ cs hu => ?_
  apply wpS_seq
  apply wpS_region
  simp [wpOpsS, go_sem, recoverD, hu, Try.ntmps23, Exit.thenS]
  refine wpS_of_wp ?_
  simp only [Array.replicate, List.replicate_succ, List.replicate_zero, List.setIfInBounds_toArray, List.set_cons_zero, List.set_cons_succ, List.append_toArray, List.cons_append, List.nil_append]
  go_wp2
  refine ⟨rfl, .returning, ?_, _, results_none rfl _ _ _, rfl, rfl, rfl⟩
  cases c₀; simp_all

set_option maxRecDepth 100000 in
set_option maxHeartbeats 1000000 in
theorem Decode_no (a b : Int) (s : ByteArray) (w : World) (hd : ∀ w, Calls Try.prog 24 #[.int .i64 a, .int .i64 b, .string s] w fun e w' => e = .panicked [{ v := .iface 34 (.int .i64 100), recovered := false }] ∧ Below w.heap.size w w') :
    Calls Try.prog 16 #[.int .i64 a, .int .i64 b, .string s] w fun e w' => e = .returned (.tuple #[.agg #[.int .i64 0, .int .i64 0, .string ⟨#[]⟩], .int .i64 100]) ∧ Below w.heap.size w w' := by
  have hmf : ∀ (fn : Fn) (first cap : Array Value) (w : World), (Instr.makeFunc fn first cap).run Try.prog w = .ok (.func fn first cap) w := fun _ _ _ _ => rfl
  have Hc := Lib.hid hd
  clear hd
  go_enter_defers Try.func16, Try.ntmps16
  go_wp2_with (go_at_call 24; refine (Hc.out _).mono ?_; rintro e w1 ⟨rfl, hb1⟩)
  obtain ⟨⟨p0, p1, p2⟩, f0, f1, f2⟩ := cells3 (bblock hb1 (heap2_0 _ _ _))
  obtain ⟨q1, q2⟩ := cell_of_box (bblock hb1 (heap2_1 _ _ _))
  refine leaves_cons (f := 23) (args := #[.pointer (some ⟨w.heap.size, 0, none⟩), .pointer (some ⟨w.heap.size + 1, 0, none⟩)]) (by simp) (by simp [go_sem]) ?_
  refine (catchD_panicking _ _ _ _ _ _ _ _ p0 f0 p1 f1 p2 f2 q1 q2).mono ?_
  rintro e u' w'' ⟨rfl, rfl, rfl⟩
  have hBel : Below w.heap.size w w1 := Below.trans (below_alloc (below_alloc (Below.refl _ _))) (hb1.mono (by simp; omega))
  obtain ⟨e0, e1, e2⟩ := set3 (W := w1) (B := w.heap.size) (v0 := .int .i64 0) (v1 := .int .i64 0) (v2 := .string ⟨#[]⟩) p0 p1 p2
  have g3 : (((w1.setCell ⟨w.heap.size, 0, none⟩ (.int .i64 0)).setCell ⟨w.heap.size, 1, none⟩ (.int .i64 0)).setCell ⟨w.heap.size, 2, none⟩ (.string ⟨#[]⟩)).cell? ⟨w.heap.size + 1, 0, none⟩ = some (.int .i64 0) := by
    rw [World.cell?_setCell_other _ _ _ _ (by simp), World.cell?_setCell_other _ _ _ _ (by simp), World.cell?_setCell_other _ _ _ _ (by simp)]; exact q1
  have hB3 : Below w.heap.size w (((w1.setCell ⟨w.heap.size, 0, none⟩ (.int .i64 0)).setCell ⟨w.heap.size, 1, none⟩ (.int .i64 0)).setCell ⟨w.heap.size, 2, none⟩ (.string ⟨#[]⟩)) :=
    ((hBel.setCell (p := ⟨w.heap.size, 0, none⟩) (Nat.le_refl _) _).setCell (p := ⟨w.heap.size, 1, none⟩) (Nat.le_refl _) _).setCell (p := ⟨w.heap.size, 2, none⟩) (Nat.le_refl _) _
  generalize (((w1.setCell ⟨w.heap.size, 0, none⟩ (.int .i64 0)).setCell ⟨w.heap.size, 1, none⟩ (.int .i64 0)).setCell ⟨w.heap.size, 2, none⟩ (.string ⟨#[]⟩)) = W3 at *
  have k0 : (W3.setCell ⟨w.heap.size + 1, 0, none⟩ (.int .i64 100)).cell? ⟨w.heap.size, 0, none⟩ = some (.int .i64 0) := (World.cell?_setCell_other _ _ _ _ (by simp)).trans e0
  have k1 : (W3.setCell ⟨w.heap.size + 1, 0, none⟩ (.int .i64 100)).cell? ⟨w.heap.size, 1, none⟩ = some (.int .i64 0) := (World.cell?_setCell_other _ _ _ _ (by simp)).trans e1
  have k2 : (W3.setCell ⟨w.heap.size + 1, 0, none⟩ (.int .i64 100)).cell? ⟨w.heap.size, 2, none⟩ = some (.string ⟨#[]⟩) := (World.cell?_setCell_other _ _ _ _ (by simp)).trans e2
  have k3 : (W3.setCell ⟨w.heap.size + 1, 0, none⟩ (.int .i64 100)).cell? ⟨w.heap.size + 1, 0, none⟩ = some (.int .i64 100) := World.cell?_setCell_same' _ _ _ (by rw [g3]; rfl)
  simp [Leaves, settle, results, Try.results16, go_sem, k0, k1, k2, k3]
  exact hB3.setCell (p := ⟨w.heap.size + 1, 0, none⟩) (by simp) _

set_option maxRecDepth 100000 in
set_option maxHeartbeats 1000000 in
theorem Decode_yes (a b : Int) (s : ByteArray) (w : World) (n0 n1 : Int) (x : ByteArray) (hd : ∀ w, Calls Try.prog 24 #[.int .i64 a, .int .i64 b, .string s] w fun e w' => e = .returned (.agg #[.int .i64 n0, .int .i64 n1, .string x]) ∧ Below w.heap.size w w') :
    Calls Try.prog 16 #[.int .i64 a, .int .i64 b, .string s] w fun e w' => e = .returned (.tuple #[.agg #[.int .i64 n0, .int .i64 n1, .string x], .int .i64 0]) ∧ Below w.heap.size w w' := by
  have hmf : ∀ (fn : Fn) (first cap : Array Value) (w : World), (Instr.makeFunc fn first cap).run Try.prog w = .ok (.func fn first cap) w := fun _ _ _ _ => rfl
  have Hc := Lib.hid hd
  clear hd
  go_enter_defers Try.func16, Try.ntmps16
  go_wp2_with (go_at_call 24; refine (Hc.out _).mono ?_; rintro e w1 ⟨rfl, hb1⟩; obtain ⟨⟨p0, p1, p2⟩, f0, f1, f2⟩ := cells3 (bblock hb1 (heap2_0 _ _ _)); obtain ⟨q1, q2⟩ := cell_of_box (bblock hb1 (heap2_1 _ _ _)))
  refine leaves_cons (f := 23) (args := #[.pointer (some ⟨w.heap.size, 0, none⟩), .pointer (some ⟨w.heap.size + 1, 0, none⟩)]) (by simp) (by simp [go_sem]) ?_
  refine (catchD_idle _ _ _).mono ?_
  rintro e u' w'' ⟨rfl, rfl, rfl⟩
  have hBel : Below w.heap.size w w1 := Below.trans (below_alloc (below_alloc (Below.refl _ _))) (hb1.mono (by simp; omega))
  obtain ⟨e0, e1, e2⟩ := set3 (W := w1) (B := w.heap.size) (v0 := .int .i64 n0) (v1 := .int .i64 n1) (v2 := .string x) p0 p1 p2
  have g3 : (((w1.setCell ⟨w.heap.size, 0, none⟩ (.int .i64 n0)).setCell ⟨w.heap.size, 1, none⟩ (.int .i64 n1)).setCell ⟨w.heap.size, 2, none⟩ (.string x)).cell? ⟨w.heap.size + 1, 0, none⟩ = some (.int .i64 0) := by
    rw [World.cell?_setCell_other _ _ _ _ (by simp), World.cell?_setCell_other _ _ _ _ (by simp), World.cell?_setCell_other _ _ _ _ (by simp)]; exact q1
  have hB3 : Below w.heap.size w (((w1.setCell ⟨w.heap.size, 0, none⟩ (.int .i64 n0)).setCell ⟨w.heap.size, 1, none⟩ (.int .i64 n1)).setCell ⟨w.heap.size, 2, none⟩ (.string x)) :=
    ((hBel.setCell (p := ⟨w.heap.size, 0, none⟩) (Nat.le_refl _) _).setCell (p := ⟨w.heap.size, 1, none⟩) (Nat.le_refl _) _).setCell (p := ⟨w.heap.size, 2, none⟩) (Nat.le_refl _) _
  generalize (((w1.setCell ⟨w.heap.size, 0, none⟩ (.int .i64 n0)).setCell ⟨w.heap.size, 1, none⟩ (.int .i64 n1)).setCell ⟨w.heap.size, 2, none⟩ (.string x)) = W3 at *
  have k0 : (W3.setCell ⟨w.heap.size + 1, 0, none⟩ (.int .i64 0)).cell? ⟨w.heap.size, 0, none⟩ = some (.int .i64 n0) := (World.cell?_setCell_other _ _ _ _ (by simp)).trans e0
  have k1 : (W3.setCell ⟨w.heap.size + 1, 0, none⟩ (.int .i64 0)).cell? ⟨w.heap.size, 1, none⟩ = some (.int .i64 n1) := (World.cell?_setCell_other _ _ _ _ (by simp)).trans e1
  have k2 : (W3.setCell ⟨w.heap.size + 1, 0, none⟩ (.int .i64 0)).cell? ⟨w.heap.size, 2, none⟩ = some (.string x) := (World.cell?_setCell_other _ _ _ _ (by simp)).trans e2
  have k3 : (W3.setCell ⟨w.heap.size + 1, 0, none⟩ (.int .i64 0)).cell? ⟨w.heap.size + 1, 0, none⟩ = some (.int .i64 0) := World.cell?_setCell_same' _ _ _ (by rw [g3]; rfl)
  simp [Leaves, settle, results, Try.results16, go_sem, k0, k1, k2, k3]
  exact hB3.setCell (p := ⟨w.heap.size + 1, 0, none⟩) (by simp) _

end Go.Proofs.Yteaihpiilimkcaa.Udp
