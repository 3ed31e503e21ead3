/-
  Contracts of udp.decode and udp.Decode.
-/
import Derived.Test.YteaihpiilimkcaaUdp2
namespace Go.Proofs.Yteaihpiilimkcaa.Udp
open Go.RowKit Go.Proofs.Yteaihpiilimkcaa.Wire

theorem get_any (s : ByteArray) (a : Int) (w : World) (h0 : 0 ≤ a) (h1 : a + 2 ≤ s.size) (hm : s.size ≤ 9223372036854775807) :
    Calls Try.prog 30 #[.string s, .int .i64 a] w fun e w' => e = .returned (.int .i64 (num (bytesAt s a.toNat 2))) ∧ ∃ cs, w' = (w.alloc (.cells cs 58)).drew := by
  have Hp := Lib.hid (getx2 s a w h0 h1 hm)
  generalize num (bytesAt s a.toNat 2) = R at *
  go_enter Try.func30, Try.ntmps30
  go_wp2_with (go_at_call 35; refine (Hp.out).mono ?_; rintro e w' ⟨rfl, cs, rfl⟩)
  go_ret
  exact ⟨rfl, _, rfl⟩

/-- the parts that decode reads -/
def dFrom (s : ByteArray) : Int := num (bytesAt s 0 2)
def dTo (s : ByteArray) : Int := num (bytesAt s 2 2)
def dEnc (a b : Int) (s : ByteArray) : List UInt8 := enc a b (num (bytesAt s 0 2)) (num (bytesAt s 2 2)) (s.extract 8 s.size).data.toList
abbrev panicE : Ending := .panicked [{ v := .iface 34 (.int .i64 100), recovered := false }]

set_option maxRecDepth 100000 in
set_option maxHeartbeats 2000000 in
theorem decode_short (a b : Int) (s : ByteArray) (w : World) (hs : s.size < 8) :
    Calls Try.prog 24 #[.int .i64 a, .int .i64 b, .string s] w fun e w' => e = .panicked [{ v := .iface 34 (.int .i64 100), recovered := false }] ∧ Below w.heap.size w w' := by
  have hmi : ∀ w, (Instr.makeInterface 34 (.int .i64 100)).run Try.prog w = .ok (.iface 34 (.int .i64 100)) w := fun _ => by kernel_rfl
  go_enter Try.func24, Try.ntmps24
  go_wp2_with fail
  refine bodyPost_pan rfl ?_
  exact ⟨rfl, ((Below.refl _ _).alloc (Nat.le_refl _) _)⟩

set_option maxRecDepth 100000 in
set_option maxHeartbeats 2000000 in
theorem decode_bad (a b : Int) (s : ByteArray) (w : World) (hs : s.size ≤ 9223372036854775807) (h8 : 8 ≤ s.size) (hk : encOk a b (num (bytesAt s 0 2)) (num (bytesAt s 2 2)) (s.extract 8 s.size).size = false) :
    Calls Try.prog 24 #[.int .i64 a, .int .i64 b, .string s] w fun e w' => e = .panicked [{ v := .iface 34 (.int .i64 100), recovered := false }] ∧ Below w.heap.size w w' := by
  have hmi : ∀ w, (Instr.makeInterface 34 (.int .i64 100)).run Try.prog w = .ok (.iface 34 (.int .i64 100)) w := fun _ => by kernel_rfl
  have hx : (s.extract 8 s.size).size ≤ 9223372036854775807 := by simp; omega
  have Hc := Lib.hid fun w => encode_no a b _ _ _ w hx hk
  clear hk hx
  go_enter Try.func24, Try.ntmps24
  go_wp2_with fail
  go_region_with (go_at_call 30; refine (get_any _ _ _ (by omega) (by omega) hs).mono ?_; rintro e w5 ⟨rfl, cs, rfl⟩)
  all_goals
    go_wp2_with (go_at_call 19; refine (Hc.out _).mono ?_; rintro e w6 ⟨rfl, hb6⟩)
    refine bodyPost_pan rfl ?_
    exact ⟨rfl, Below.trans (by repeat (first | exact Below.refl _ _ | apply Below.drew | apply below_alloc)) (hb6.mono (by simp; omega))⟩

set_option maxRecDepth 100000 in
set_option maxHeartbeats 2000000 in
theorem decode_other (a b : Int) (s : ByteArray) (w : World) (hs : s.size ≤ 9223372036854775807) (h8 : 8 ≤ s.size) (hk : encOk a b (num (bytesAt s 0 2)) (num (bytesAt s 2 2)) (s.extract 8 s.size).size = true) (hne : dEnc a b s ≠ s.data.toList) :
    Calls Try.prog 24 #[.int .i64 a, .int .i64 b, .string s] w fun e w' => e = .panicked [{ v := .iface 34 (.int .i64 100), recovered := false }] ∧ Below w.heap.size w w' := by
  have hmi : ∀ w, (Instr.makeInterface 34 (.int .i64 100)).run Try.prog w = .ok (.iface 34 (.int .i64 100)) w := fun _ => by kernel_rfl
  have Hc := Lib.hid fun w => encode_okB a b _ _ (s.extract 8 s.size) w hk
  have hcmp : (enc a b (num (bytesAt s 0 2)) (num (bytesAt s 2 2)) (s.extract 8 s.size).data.toList == s.toList) = false := by
    rw [ByteArray.toList_eq]; simpa [dEnc] using hne
  clear hk hne
  generalize enc a b (num (bytesAt s 0 2)) (num (bytesAt s 2 2)) (s.extract 8 s.size).data.toList = R at *
  go_enter Try.func24, Try.ntmps24
  go_wp2_with fail
  go_region_with (go_at_call 30; refine (get_any _ _ _ (by omega) (by omega) hs).mono ?_; rintro e w5 ⟨rfl, cs, rfl⟩)
  all_goals
    go_wp2_with (go_at_call 19; refine (Hc.out _).mono ?_; rintro e w6 ⟨rfl, hb6⟩; obtain ⟨hc6, hf6⟩ := bcells hb6)
    refine bodyPost_pan rfl ?_
    exact ⟨rfl, Below.trans (by repeat (first | exact Below.refl _ _ | apply Below.drew | apply below_alloc)) (hb6.mono (by simp; omega))⟩

set_option maxRecDepth 100000 in
set_option maxHeartbeats 2000000 in
theorem decode_ok (a b : Int) (s : ByteArray) (w : World) (hs : s.size ≤ 9223372036854775807) (h8 : 8 ≤ s.size) (hk : encOk a b (num (bytesAt s 0 2)) (num (bytesAt s 2 2)) (s.extract 8 s.size).size = true) (hne : dEnc a b s = s.data.toList) :
    Calls Try.prog 24 #[.int .i64 a, .int .i64 b, .string s] w fun e w' => e = .returned (.agg #[.int .i64 (num (bytesAt s 0 2)), .int .i64 (num (bytesAt s 2 2)), .string (s.extract 8 s.size)]) ∧ Below w.heap.size w w' := by
  have Hc := Lib.hid fun w => encode_okB a b _ _ (s.extract 8 s.size) w hk
  have hcmp : (enc a b (num (bytesAt s 0 2)) (num (bytesAt s 2 2)) (s.extract 8 s.size).data.toList == s.toList) = true := by
    rw [ByteArray.toList_eq]; simpa [dEnc] using hne
  clear hk hne
  generalize enc a b (num (bytesAt s 0 2)) (num (bytesAt s 2 2)) (s.extract 8 s.size).data.toList = R at *
  go_enter Try.func24, Try.ntmps24
  go_wp2_with fail
  go_region_with (go_at_call 30; refine (get_any _ _ _ (by omega) (by omega) hs).mono ?_; rintro e w5 ⟨rfl, cs, rfl⟩)
  all_goals
    go_wp2_with (go_at_call 19; refine (Hc.out _).mono ?_; rintro e w6 ⟨rfl, hb6⟩; obtain ⟨hc6, hf6⟩ := bcells hb6)
    obtain ⟨e0, e1, e2⟩ := set3 (W := w6) (B := w.heap.size) (x0 := .int .i64 0) (x1 := .int .i64 0) (x2 := .string ⟨#[]⟩) (v0 := .int .i64 (num (bytesAt s 0 2))) (v1 := .int .i64 (num (bytesAt s 2 2))) (v2 := .string (s.extract 8 s.size)) ((hc6 w.heap.size 0 (by simp; omega)).trans (by simp [go_sem])) ((hc6 w.heap.size 1 (by simp; omega)).trans (by simp [go_sem])) ((hc6 w.heap.size 2 (by simp; omega)).trans (by simp [go_sem]))
    have hB : Below w.heap.size w w6 := Below.trans (by repeat (first | exact Below.refl _ _ | apply Below.drew | apply below_alloc)) (hb6.mono (by simp; omega))
    refine bodyPost_ret (v := .agg #[.int .i64 (num (bytesAt s 0 2)), .int .i64 (num (bytesAt s 2 2)), .string (s.extract 8 s.size)]) ?_ rfl ⟨rfl, ?_⟩
    · simp [results, Try.results24, go_sem, e0, e1, e2]
    · exact ((hB.setCell (p := ⟨w.heap.size, 0, none⟩) (Nat.le_refl _) _).setCell (p := ⟨w.heap.size, 1, none⟩) (Nat.le_refl _) _).setCell (p := ⟨w.heap.size, 2, none⟩) (Nat.le_refl _) _

end Go.Proofs.Yteaihpiilimkcaa.Udp
