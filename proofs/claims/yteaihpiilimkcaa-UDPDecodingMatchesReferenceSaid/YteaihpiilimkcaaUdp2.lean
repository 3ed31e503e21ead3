/-
  Contracts of udp.Encode and udp.Decode.
-/
import Derived.Test.YteaihpiilimkcaaUdp
import Derived.Recover
import Derived.Defers
namespace Go.Proofs.Yteaihpiilimkcaa.Udp
open Go.RowKit Go.Proofs.Yteaihpiilimkcaa.Wire

def encOk (a b f t : Int) (k : Nat) : Bool := validB f t k && !(a == 0) && !(b == 0) && addrB a && addrB b

set_option maxRecDepth 100000 in
set_option maxHeartbeats 1000000 in
theorem encode_no (a b f t : Int) (s : ByteArray) (w : World) (hs : s.size ≤ 9223372036854775807) (h : encOk a b f t s.size = false) :
    Calls Try.prog 19 #[.int .i64 a, .int .i64 b, .agg #[.int .i64 f, .int .i64 t, .string s]] w fun e w' => e = .panicked [{ v := .iface 34 (.int .i64 100), recovered := false }] ∧ Below w.heap.size w w' := by
  have hmi : ∀ w, (Instr.makeInterface 34 (.int .i64 100)).run Try.prog w = .ok (.iface 34 (.int .i64 100)) w := fun _ => by kernel_rfl
  cases h1 : validB f t s.size
  · clear h
    go_enter Try.func19, Try.ntmps19
    go_wp2_with (first | (go_at_call 14; refine (valid_any _ _ _ _ (by omega)).mono ?_; rintro e w1 ⟨rfl, hb1⟩) | (go_at_call 26; refine (addrValid_any _ _).mono ?_; rintro e w2 ⟨rfl, rfl⟩))
    refine bodyPost_pan rfl ?_
    exact ⟨rfl, ((Below.refl _ _).alloc (Nat.le_refl _) _).trans (hb1.mono (by simp))⟩
  cases h2 : (a == 0)
  rotate_left
  · clear h
    go_enter Try.func19, Try.ntmps19
    go_wp2_with (first | (go_at_call 14; refine (valid_any _ _ _ _ (by omega)).mono ?_; rintro e w1 ⟨rfl, hb1⟩) | (go_at_call 26; refine (addrValid_any _ _).mono ?_; rintro e w2 ⟨rfl, rfl⟩))
    refine bodyPost_pan rfl ?_
    exact ⟨rfl, ((Below.refl _ _).alloc (Nat.le_refl _) _).trans (hb1.mono (by simp))⟩
  cases h3 : (b == 0)
  rotate_left
  · clear h
    go_enter Try.func19, Try.ntmps19
    go_wp2_with (first | (go_at_call 14; refine (valid_any _ _ _ _ (by omega)).mono ?_; rintro e w1 ⟨rfl, hb1⟩) | (go_at_call 26; refine (addrValid_any _ _).mono ?_; rintro e w2 ⟨rfl, rfl⟩))
    refine bodyPost_pan rfl ?_
    exact ⟨rfl, ((Below.refl _ _).alloc (Nat.le_refl _) _).trans (hb1.mono (by simp))⟩
  cases h4 : addrB a
  · clear h
    go_enter Try.func19, Try.ntmps19
    go_wp2_with (first | (go_at_call 14; refine (valid_any _ _ _ _ (by omega)).mono ?_; rintro e w1 ⟨rfl, hb1⟩) | (go_at_call 26; refine (addrValid_any _ _).mono ?_; rintro e w2 ⟨rfl, rfl⟩))
    refine bodyPost_pan rfl ?_
    exact ⟨rfl, ((Below.refl _ _).alloc (Nat.le_refl _) _).trans (hb1.mono (by simp))⟩
  cases h5 : addrB b
  · clear h
    go_enter Try.func19, Try.ntmps19
    go_wp2_with (first | (go_at_call 14; refine (valid_any _ _ _ _ (by omega)).mono ?_; rintro e w1 ⟨rfl, hb1⟩) | (go_at_call 26; refine (addrValid_any _ _).mono ?_; rintro e w2 ⟨rfl, rfl⟩))
    refine bodyPost_pan rfl ?_
    exact ⟨rfl, ((Below.refl _ _).alloc (Nat.le_refl _) _).trans (hb1.mono (by simp))⟩
  simp [encOk, h1, h2, h3, h4, h5] at h

theorem encode_okB (a b f t : Int) (s : ByteArray) (w : World) (h : encOk a b f t s.size = true) :
    Calls Try.prog 19 #[.int .i64 a, .int .i64 b, .agg #[.int .i64 f, .int .i64 t, .string s]] w fun e w' => e = .returned (.string ⟨(enc a b f t s.data.toList).toArray⟩) ∧ Below w.heap.size w w' := by
  simp only [encOk, Bool.and_eq_true, Bool.not_eq_true'] at h
  obtain ⟨⟨⟨⟨h1, h2⟩, h3⟩, h4⟩, h5⟩ := h
  exact encode_ok a b f t s w h1 h4 h5 h2 h3

theorem catchE_panicking (b : Nat) (x : ByteArray) (y : Int) (u : TypeId) (pv : Value) (w : World) (hc : w.cell? ⟨b, 0, none⟩ = some (.string x)) (hz : w.frozen? ⟨b, 0, none⟩ = false) (hc2 : w.cell? ⟨b + 1, 0, none⟩ = some (.int .i64 y)) (hz2 : w.frozen? ⟨b + 1, 0, none⟩ = false) :
    CallsD Try.prog 18 #[.pointer (some ⟨b, 0, none⟩), .pointer (some ⟨b + 1, 0, none⟩)] (.panicking [{ v := .iface u pv, recovered := false }]) w fun e u' w' =>
      e = .returned (.tuple #[]) ∧ u' = .panicking [{ v := .iface u pv, recovered := true }] ∧ w' = (w.setCell ⟨b, 0, none⟩ (.string ⟨#[]⟩)).setCell ⟨b + 1, 0, none⟩ (.int .i64 100) := by
  have hc3 : (w.setCell ⟨b, 0, none⟩ (.string ⟨#[]⟩)).cell? ⟨b + 1, 0, none⟩ = some (.int .i64 y) := (World.cell?_setCell_other _ _ _ _ (by simp)).trans hc2
  refine callsD_of_wpS Try.func18 rfl fun c₀ cs hu => ?_
  apply wpS_seq
  apply wpS_region
  simp [wpOpsS, go_sem, recoverD, hu, Try.ntmps18, Exit.thenS]
  refine wpS_of_wp ?_
  simp only [Array.replicate, List.replicate_succ, List.replicate_zero, List.setIfInBounds_toArray, List.set_cons_zero, List.set_cons_succ, List.append_toArray, List.cons_append, List.nil_append]
  go_wp2
  exact ⟨rfl, _, rfl, _, results_none rfl _ _ _, rfl, rfl, rfl⟩

theorem catchE_idle (p q : Addr) (w : World) :
    CallsD Try.prog 18 #[.pointer (some p), .pointer (some q)] .returning w fun e u' w' => e = .returned (.tuple #[]) ∧ u' = .returning ∧ w' = w := by
  refine callsD_of_wpS Try.func18 rfl fun c₀ cs hu => ?_
  apply wpS_seq
  apply wpS_region
  simp [wpOpsS, go_sem, recoverD, hu, Try.ntmps18, Exit.thenS]
  refine wpS_of_wp ?_
  simp only [Array.replicate, List.replicate_succ, List.replicate_zero, List.setIfInBounds_toArray, List.set_cons_zero, List.set_cons_succ, List.append_toArray, List.cons_append, List.nil_append]
  go_wp2
  refine ⟨rfl, .returning, ?_, _, results_none rfl _ _ _, rfl, rfl, rfl⟩
  cases c₀; simp_all

set_option maxRecDepth 100000 in
set_option maxHeartbeats 1000000 in
theorem Encode_ok (a b f t : Int) (s : ByteArray) (w : World) (h : encOk a b f t s.size = true) :
    Calls Try.prog 12 #[.int .i64 a, .int .i64 b, .agg #[.int .i64 f, .int .i64 t, .string s]] w fun e w' => e = .returned (.tuple #[.string ⟨(enc a b f t s.data.toList).toArray⟩, .int .i64 0]) ∧ Below w.heap.size w w' := by
  have hmf : ∀ (fn : Fn) (first cap : Array Value) (w : World), (Instr.makeFunc fn first cap).run Try.prog w = .ok (.func fn first cap) w := fun _ _ _ _ => rfl
  simp only [encOk, Bool.and_eq_true, Bool.not_eq_true'] at h
  obtain ⟨⟨⟨⟨h1, h2⟩, h3⟩, h4⟩, h5⟩ := h
  have Hc := Lib.hid (encode_ok a b f t s)
  generalize enc a b f t s.data.toList = R at *
  go_enter_defers Try.func12, Try.ntmps12
  go_wp2_with (go_at_call 19; refine (Hc.out _ h1 h4 h5 h2 h3).mono ?_; rintro e w1 ⟨rfl, hb1⟩; obtain ⟨p1, p2⟩ := bbox hb1 (b := w.heap.size + 1) (v := .string ⟨#[]⟩) (t := 9) (heap3_1 _ _ _ _); obtain ⟨q1, q2⟩ := bbox hb1 (b := w.heap.size + 1 + 1) (v := .int .i64 0) (t := 34) (heap3_2 _ _ _ _))
  refine leaves_cons (f := 18) (args := #[.pointer (some ⟨w.heap.size + 1, 0, none⟩), .pointer (some ⟨w.heap.size + 1 + 1, 0, none⟩)]) (by simp) (by simp [go_sem]) ?_
  refine (catchE_idle _ _ _).mono ?_
  rintro e u' w'' ⟨rfl, rfl, rfl⟩
  have hBel : Below w.heap.size w w1 := ((((Below.refl _ _).alloc (Nat.le_refl _) _).alloc (by simp) _).alloc (by simp; omega) _).trans (hb1.mono (by simp; omega))
  have e1 : ((w1.setCell ⟨w.heap.size + 1, 0, none⟩ (.string ⟨R.toArray⟩)).setCell ⟨w.heap.size + 1 + 1, 0, none⟩ (.int .i64 0)).cell? ⟨w.heap.size + 1, 0, none⟩ = some (.string ⟨R.toArray⟩) :=
    (World.cell?_setCell_other _ _ _ _ (by simp)).trans (World.cell?_setCell_same' _ _ _ (by rw [p1]; rfl))
  have e2 : ((w1.setCell ⟨w.heap.size + 1, 0, none⟩ (.string ⟨R.toArray⟩)).setCell ⟨w.heap.size + 1 + 1, 0, none⟩ (.int .i64 0)).cell? ⟨w.heap.size + 1 + 1, 0, none⟩ = some (.int .i64 0) :=
    World.cell?_setCell_same' _ _ _ (by rw [World.cell?_setCell_other _ _ _ _ (by simp), q1]; rfl)
  simp [Leaves, settle, results, Try.results12, go_sem, e1, e2]
  exact (hBel.setCell (p := ⟨w.heap.size + 1, 0, none⟩) (by simp) _).setCell (p := ⟨w.heap.size + 1 + 1, 0, none⟩) (by simp; omega) _

set_option maxRecDepth 100000 in
set_option maxHeartbeats 1000000 in
theorem Encode_no (a b f t : Int) (s : ByteArray) (w : World) (hs : s.size ≤ 9223372036854775807) (h : encOk a b f t s.size = false) :
    Calls Try.prog 12 #[.int .i64 a, .int .i64 b, .agg #[.int .i64 f, .int .i64 t, .string s]] w fun e w' => e = .returned (.tuple #[.string ⟨#[]⟩, .int .i64 100]) ∧ Below w.heap.size w w' := by
  have hmf : ∀ (fn : Fn) (first cap : Array Value) (w : World), (Instr.makeFunc fn first cap).run Try.prog w = .ok (.func fn first cap) w := fun _ _ _ _ => rfl
  have Hc := Lib.hid fun w => encode_no a b f t s w hs h
  go_enter_defers Try.func12, Try.ntmps12
  go_wp2_with (go_at_call 19; refine (Hc.out _).mono ?_; rintro e w1 ⟨rfl, hb1⟩)
  obtain ⟨p1, p2⟩ := bbox hb1 (b := w.heap.size + 1) (v := .string ⟨#[]⟩) (t := 9) (heap3_1 _ _ _ _)
  obtain ⟨q1, q2⟩ := bbox hb1 (b := w.heap.size + 1 + 1) (v := .int .i64 0) (t := 34) (heap3_2 _ _ _ _)
  refine leaves_cons (f := 18) (args := #[.pointer (some ⟨w.heap.size + 1, 0, none⟩), .pointer (some ⟨w.heap.size + 1 + 1, 0, none⟩)]) (by simp) (by simp [go_sem]) ?_
  refine (catchE_panicking _ _ _ _ _ _ p1 p2 q1 q2).mono ?_
  rintro e u' w'' ⟨rfl, rfl, rfl⟩
  have hBel : Below w.heap.size w w1 := ((((Below.refl _ _).alloc (Nat.le_refl _) _).alloc (by simp) _).alloc (by simp; omega) _).trans (hb1.mono (by simp; omega))
  have e1 : ((w1.setCell ⟨w.heap.size + 1, 0, none⟩ (.string ⟨#[]⟩)).setCell ⟨w.heap.size + 1 + 1, 0, none⟩ (.int .i64 100)).cell? ⟨w.heap.size + 1, 0, none⟩ = some (.string ⟨#[]⟩) :=
    (World.cell?_setCell_other _ _ _ _ (by simp)).trans (World.cell?_setCell_same' _ _ _ (by rw [p1]; rfl))
  have e2 : ((w1.setCell ⟨w.heap.size + 1, 0, none⟩ (.string ⟨#[]⟩)).setCell ⟨w.heap.size + 1 + 1, 0, none⟩ (.int .i64 100)).cell? ⟨w.heap.size + 1 + 1, 0, none⟩ = some (.int .i64 100) :=
    World.cell?_setCell_same' _ _ _ (by rw [World.cell?_setCell_other _ _ _ _ (by simp), q1]; rfl)
  simp [Leaves, settle, results, Try.results12, go_sem, e1, e2]
  exact (hBel.setCell (p := ⟨w.heap.size + 1, 0, none⟩) (by simp) _).setCell (p := ⟨w.heap.size + 1 + 1, 0, none⟩) (by simp; omega) _

end Go.Proofs.Yteaihpiilimkcaa.Udp
