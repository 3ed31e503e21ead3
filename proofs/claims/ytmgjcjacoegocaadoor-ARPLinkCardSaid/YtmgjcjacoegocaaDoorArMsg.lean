/-
  The helpers address, short and Message of the laws of chapter 05.
-/
import Derived.Test.YtmgjcjacoegocaaDoorArGen
import Derived.Test.YtmgjcjacoegocaaDoorStore
import Derived.Deep.RegionHeld3
import Derived.Deep.DeepCutAuto
namespace Go.Proofs.YtmgjcjacoegocaaDoor.Ar
set_option maxRecDepth 100000
open Go.RowKit Go.Proofs.YtmgjcjacoegocaaDoor.Wire

/-- one of 24 addresses -/
def addrN (n : Int) : Int := 10 + pick n 24
theorem addrN_bd (n : Int) : 10 ≤ addrN n ∧ addrN n ≤ 33 := by have := pick_lt n 24 (by omega); unfold addrN; omega
/-- the first 20 bytes -/
def shortS (s : ByteArray) : ByteArray := s.extract 0 (min s.size 20)
/-- a call, as it is given -/
structure Cl where
  kd : Nat
  ad : Int
  mc : Int
  to_ : Int
  op : Int
  s : ByteArray
  ti : Int
  a0 : Int
  a1 : Int
  a2 : Int
  a3 : Int
  a4 : Int
/-- the message of a call -/
def msgC (ad mc to_ op : Int) : Am := ⟨1 + pick op 2, addrN ad, 1 + pick mc 9, if pick to_ 4 = 0 then addrN (to_.tdiv 4) else 10, if 1 + pick op 2 = 2 then 1 + pick to_ 9 else 0⟩
theorem msgC_ok (ad mc to_ op : Int) : (msgC ad mc to_ op).ok := by
  have h1 := pick_lt op 2 (by omega); have h2 := addrN_bd ad; have h3 := pick_lt mc 9 (by omega); have h4 := addrN_bd (to_.tdiv 4); have h5 := pick_lt to_ 9 (by omega)
  unfold msgC Am.ok
  dsimp only
  refine ⟨by omega, ?_, by omega, ?_⟩
  · split <;> omega
  · split <;> omega
theorem tdiv_in (x : Int) (n : Int) (hn : 1 ≤ n) (h : In64 x) : In64 (x.tdiv n) := by
  unfold In64 at *
  rcases Int.le_total 0 x with q | q
  · rw [Int.tdiv_eq_ediv_of_nonneg q]
    have h1 := Int.ediv_nonneg q (show (0 : Int) ≤ n by omega)
    have h2 := Int.ediv_le_self n q
    omega
  · have e : x = -(-x) := by omega
    rw [e, Int.neg_tdiv, Int.tdiv_eq_ediv_of_nonneg (by omega)]
    have h1 := Int.ediv_nonneg (show (0 : Int) ≤ -x by omega) (show (0 : Int) ≤ n by omega)
    have h2 := Int.ediv_le_self n (show (0 : Int) ≤ -x by omega)
    omega
theorem infoM5 : (Tryd.prog.info? 52).map (·.size) = some 5 := by kernel_rfl
end Go.Proofs.YtmgjcjacoegocaaDoor.Ar
