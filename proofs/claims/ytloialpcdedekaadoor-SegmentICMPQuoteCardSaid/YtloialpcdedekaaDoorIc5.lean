/-
  The contracts of the text's number and of what stands behind, of package icmp.
-/
import Derived.Test.YtloialpcdedekaaDoorIc4
import Derived.Test.YtloialpcdedekaaDoorGetI
import Derived.BigQuiet
namespace Go.Proofs.YtloialpcdedekaaDoor.Ic
set_option maxRecDepth 100000
open Go.RowKit Go.Proofs.YtloialpcdedekaaDoor.Wire

/-- the two errors of the package, where they lie -/
def errV (a : Addr) : Value := .iface 136 (.pointer (some a))
def Gl (W : World) (a0 a1 : Addr) : Prop := W.cell? ⟨0, 0, none⟩ = some (errV a0) ∧ W.cell? ⟨1, 0, none⟩ = some (errV a1)
theorem Gl.below {W W' : World} {a0 a1 : Addr} (h : Gl W a0 a1) (hb : Below W.heap.size W W') : Gl W' a0 a1 := ⟨bcell hb h.1, bcell hb h.2⟩
set_option maxHeartbeats 400000 in
theorem number_yes (s : ByteArray) (a k : Int) (w : World) (h1 : 1 ≤ k) (h4 : k ≤ 4) (h0 : 0 ≤ a) (ha : a + k ≤ s.size) (hm : s.size ≤ 9223372036854775807) :
    Calls Tryd.prog 62 #[.string s, .int .i64 a, .int .i64 k] w fun e w' => e = .returned (.tuple #[.int .i64 (num (bytesAt s a.toNat k.toNat)), .nilIface]) ∧ Below w.heap.size w w' := by
  have HG := Lib.hid fun w => get_okI s a k w h1 h4 h0 ha hm
  go_enter Tryd.func62, Tryd.ntmps62
  go_wp2_with fail
  refine (HG.out _).mono ?_
  rintro e w1 ⟨rfl, hb⟩
  go_wp2_with fail
  go_ret2
  exact ⟨rfl, hb⟩
set_option maxHeartbeats 400000 in
theorem number_no (s : ByteArray) (a k : Int) (w : World) (a0 a1 : Addr) (hg : Gl w a0 a1) (hm : s.size ≤ 9223372036854775807) (h : ¬ (1 ≤ k ∧ k ≤ 4 ∧ 0 ≤ a ∧ a + k ≤ s.size)) :
    Calls Tryd.prog 62 #[.string s, .int .i64 a, .int .i64 k] w fun e w' => e = .returned (.tuple #[.int .i64 0, errV a0]) ∧ Below w.heap.size w w' := by
  have HG := Lib.hid fun w => get_noI s a k w hm h
  have HL := Lib.hid hg; clear hg h
  go_enter Tryd.func62, Tryd.ntmps62
  go_wp2_with fail
  refine (HG.out _).mono ?_
  rintro e w1 ⟨rfl, hb⟩
  have hq := bcell hb HL.out.1
  go_wp2_with fail
  go_quiet (fail)
  go_wp2_with fail
  go_ret2
  exact ⟨rfl, ⟨hb.os, hb.tape, hb.output, hb.size, hb.block⟩⟩
theorem after_any (s : ByteArray) (a : Nat) (w : World) (ha : a ≤ s.size) :
    Calls Tryd.prog 47 #[.string s, .int .i64 (a : Int)] w fun e w' => e = .returned (.string (s.extract a s.size)) ∧ w = w' := by
  have h1 : min (a : Int) (s.size : Int) = (a : Int) := by omega
  have h2 : (0 : Int) ≤ (a : Int) := by omega
  have h3 : (a : Int) ≤ (s.size : Int) := by omega
  go_enter Tryd.func47, Tryd.ntmps47
  go_wp2_with fail
  go_ret
  exact ⟨rfl, rfl⟩
end Go.Proofs.YtloialpcdedekaaDoor.Ic
