/-
  The contracts of package dns's reader: number and name; a malformed string panics.
-/
import Derived.Test.YtmgjcjacoegocaaGreatDoorDnBld
import Derived.Test.YtmgjcjacoegocaaGreatDoorDn1
import Derived.Test.YtmgjcjacoegocaaGreatDoorGetI
import Derived.Deep.RegionHeld3
import Derived.Deep.QuietTactic
import Derived.BigQuiet
import Derived.Deep.DeepCutAuto
import Derived.Outline
namespace Go.Proofs.YtmgjcjacoegocaaGreatDoor.Dn
set_option maxRecDepth 100000
open Go.RowKit Go.Proofs.YtmgjcjacoegocaaGreatDoor.Wire

def panE : Ending := .panicked [{ v := .iface 164 (.agg #[]), recovered := false }]
def rdO (s : ByteArray) (at_ : Nat) : Obj := .cells #[.string s, .int .i64 (at_ : Int)] 161
def restOf (s : ByteArray) (at_ : Nat) : List UInt8 := s.data.toList.drop at_
theorem restOf_len (s : ByteArray) (at_ : Nat) : (restOf s at_).length = s.size - at_ := by
  unfold restOf; rw [List.length_drop]; rfl
theorem restOf_drop (s : ByteArray) (at_ k : Nat) : (restOf s at_).drop k = restOf s (at_ + k) := by unfold restOf; rw [List.drop_drop]
/-- the reader at R has taken something, or has panicked -/
def RdPost (R : Nat) (s : ByteArray) (at_ : Nat) (w : World) {α : Type} (res : Option (α × List UInt8)) (val : α → Value) (ok : α → Prop) (e : Ending) (w' : World) : Prop :=
  w.grownBy w' (some R) ∧ ((res = none ∧ e = panE) ∨ ∃ x at', res = some (x, restOf s at') ∧ at_ ≤ at' ∧ at' ≤ s.size ∧ e = .returned (val x) ∧ ok x ∧ w'.heap[R]? = some (rdO s at'))
theorem pan_iface : ∀ w, (Instr.makeInterface 164 (.agg #[])).run Tryz.prog w = .ok (.iface 164 (.agg #[])) w := fun _ => by kernel_rfl
set_option maxHeartbeats 2000000 in
theorem number_r (R : Nat) (s : ByteArray) (at_ k : Nat) (w : World) (hR : w.heap[R]? = some (rdO s at_)) (hat : at_ ≤ s.size) (hs : s.size ≤ 1000000) (h1 : 1 ≤ k) (h4 : k ≤ 4) :
    Calls Tryz.prog 102 #[.pointer (some ⟨R, 0, none⟩), .int .i64 (k : Int)] w (RdPost R s at_ w (rdNum k (restOf s at_)) (fun n => .int .i64 n) (fun n => 0 ≤ n ∧ n < 256 ^ k)) := by
  have hlen := restOf_len s at_
  have c0 := (cell_of_block (k := 0) hR rfl).1
  have c1 := (cell_of_block (k := 1) hR rfl).1
  have HR := Lib.hid hR; clear hR
  have hpi := pan_iface
  by_cases hk : s.size - at_ < k
  · have HN : Hid (rdNum k (restOf s at_) = none) := Lib.hid (by unfold rdNum; rw [if_pos (by omega)])
    have HG := Lib.hid fun W => get_noI s at_ k W (by omega) (by omega)
    go_enter Tryz.func102, Tryz.ntmps102
    go_wp2_with fail
    go_region_held3 (fun w' => w'.cell? ⟨R, 0, none⟩ = some (.string s) ∧ w'.cell? ⟨R, 1, none⟩ = some (.int .i64 (at_ : Int))) (first | exact ⟨c0, c1⟩ | (go_split_ands; exact ⟨bcell hb c0, bcell hb c1⟩))
      ((go_at_call 26; refine (HG.out _).mono ?_; rintro e w3 ⟨rfl, hb⟩))
    have hb : Below w.heap.size w w3 := ⟨hb.os, hb.tape, hb.output, hb.size, hb.block⟩
    go_wp2_with fail
    refine bodyPost_pan rfl ?_
    exact ⟨only_of_below hb, .inl ⟨HN.out, rfl⟩⟩
  · have HN : Hid (rdNum k (restOf s at_) = some (num (bytesAt s at_ k), restOf s (at_ + k))) := Lib.hid (by unfold rdNum; rw [if_neg (by omega), restOf_drop]; rfl)
    have hnb : 0 ≤ num (bytesAt s at_ k) ∧ num (bytesAt s at_ k) < 256 ^ k := by
      have h := num_bd (bytesAt s at_ k)
      rwa [bytesAt_length s at_ k (by omega)] at h
    have HG : Hid (∀ W, Calls Tryz.prog 26 #[.string s, .int .i64 (at_ : Int), .int .i64 (k : Int)] W fun e w' => e = .returned (.tuple #[.int .i64 (num (bytesAt s at_ k)), .int .i64 0]) ∧ Below W.heap.size W w') := Lib.hid fun W => get_okI s at_ k W (by omega) (by omega) (by omega) (by omega) (by omega)
    have HNB := Lib.hid hnb; clear hnb
    generalize num (bytesAt s at_ k) = n at *
    have k1 : IntKind.i64.wrap ((at_ : Int) + (k : Int)) = (at_ : Int) + (k : Int) := IntWalk.i64_in _ (by omega)
    go_enter Tryz.func102, Tryz.ntmps102
    go_wp2_with fail
    go_region_held3 (fun w' => w'.cell? ⟨R, 0, none⟩ = some (.string s) ∧ w'.cell? ⟨R, 1, none⟩ = some (.int .i64 (at_ : Int))) (first | exact ⟨c0, c1⟩ | (go_split_ands; exact ⟨bcell hb c0, bcell hb c1⟩))
      ((go_at_call 26; refine (HG.out _).mono ?_; rintro e w3 ⟨rfl, hb⟩))
    have hb : Below w.heap.size w w3 := ⟨hb.os, hb.tape, hb.output, hb.size, hb.block⟩
    have HR3 := Lib.hid (bblock hb HR.out)
    have d1 := (cell_of_block (k := 1) HR3.out rfl).1; have z1 := (cell_of_block (k := 1) HR3.out rfl).2
    clear c0 c1
    go_wp2_with fail
    go_ret
    refine ⟨only_set (only_of_below hb) (.inl rfl) _, .inr ⟨n, at_ + k, HN.out, by omega, by omega, rfl, HNB.out, ?_⟩⟩
    have := cells_eq (b := #[.string s, .int .i64 ((at_ : Int) + (k : Int))]) (block_setCell (k := 1) (v := .int .i64 ((at_ : Int) + (k : Int))) HR3.out) rfl
    unfold rdO
    rw [show ((at_ + k : Nat) : Int) = (at_ : Int) + (k : Int) from by omega]
    exact this
end Go.Proofs.YtmgjcjacoegocaaGreatDoor.Dn
