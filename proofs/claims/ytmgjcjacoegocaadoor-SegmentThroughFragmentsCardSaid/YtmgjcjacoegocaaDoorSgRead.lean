/-
  The closure of segment.read: the next number.
-/
import Derived.Test.YtmgjcjacoegocaaDoorSgEnc
import Derived.Test.YtmgjcjacoegocaaDoorGetI
namespace Go.Proofs.YtmgjcjacoegocaaDoor.Sg
set_option maxRecDepth 100000
open Go.RowKit Go.Proofs.YtmgjcjacoegocaaDoor.Wire

def nA (t : ByteArray) (a k : Nat) : Int := num (bytesAt t a k)
theorem get_c (Bs Ba : Nat) (t : ByteArray) (a a' k N : Int) (w : World) (hs : w.heap[Bs]? = some (.cells #[.string t] 9 (0, 0))) (hA : w.heap[Ba]? = some (.cells #[.int .i64 a] 3 (0, 0))) (h0 : 0 ≤ a) (h1 : 1 ≤ k) (h4 : k ≤ 4) (ha : a + k = a') (hk : a' ≤ t.size) (ht : t.size ≤ 9223372036854775807) (hN : Hid (nA t a.toNat k.toNat = N)) :
    Calls Tryd.prog 83 #[.int .i64 k, .pointer (some ⟨Bs, 0, none⟩), .pointer (some ⟨Ba, 0, none⟩)] w fun e w' => e = .returned (.int .i64 N) ∧ w'.heap[Ba]? = some (.cells #[.int .i64 a'] 3 (0, 0)) ∧ w.grownBy w' (some Ba) := by
  have HG : Hid (∀ w, Calls Tryd.prog 52 #[.string t, .int .i64 a, .int .i64 k] w fun e w' => e = .returned (.tuple #[.int .i64 N, .int .i64 0]) ∧ Below w.heap.size w w') := Lib.hid fun w => by
    have := get_okI t a k w (by omega) (by omega) (by omega) (by omega) ht
    rwa [show num (bytesAt t a.toNat k.toNat) = N from hN.out] at this
  clear hN
  have HA : Hid (a + k = a') := Lib.hid ha; clear ha
  have Hs := Lib.hid hs; have Hc := Lib.hid hA
  have c1 := (cell_of_block (k := 0) hs rfl).1
  have c2 := (cell_of_block (k := 0) hA rfl).1
  clear hs hA
  have hak : a + k ≤ 9223372036854775807 := by have := HA.out; omega
  go_enter Tryd.func83, Tryd.ntmps83
  go_wp2_with fail
  clear c1 c2
  refine (HG.out _).mono ?_
  rintro e w1 ⟨rfl, hb⟩
  have Hc' := Lib.hid (bblock hb Hc.out); clear Hc; have Hc := Hc'; clear Hc'
  have c2 := (cell_of_block (k := 0) Hc.out rfl).1; have z2 := (cell_of_block (k := 0) Hc.out rfl).2
  go_wp2_with fail
  go_ret
  refine ⟨rfl, ?_, only_set (only_of_below hb) (.inl rfl) _⟩
  exact cells_eq (block_setCell (k := 0) Hc.out) (by rw [HA.out]; rfl)
end Go.Proofs.YtmgjcjacoegocaaDoor.Sg
