/-
  An error of errors.New's make as a value; errors.Is at a nil error.
-/
import Derived.Test.YtpiohahfdekmhaaDoorBase1
import Derived.Test.YtpiohahfdekmhaaDoorRows
import Derived.WalkKit
import Derived.LaidEql
import Derived.Stop.Asserts
namespace Go.Proofs.YtpiohahfdekmhaaDoor.Lk
set_option maxRecDepth 100000
open Go.RowKit Go.Proofs.YtpiohahfdekmhaaDoor.Wire

def errV (a : Addr) : Value := .iface 116 (.pointer (some a))
/-- the error of package link, where it lies -/
def Gl (W : World) (a0 : Addr) : Prop := W.cell? ⟨0, 0, none⟩ = some (errV a0)
theorem Gl.below {W W' : World} {a0 : Addr} (h : Gl W a0) (hb : Below W.heap.size W W') : Gl W' a0 := bcell hb h
theorem is_nil (b : Addr) (w : World) : Calls Tryd.prog 18 #[.nilIface, errV b] w fun e w' => e = .returned (.bool false) ∧ w = w' := by
  have hn := run_eql_iface_nil_left (P := Tryd.prog) w 116 (.pointer (some b)) Tryd.underlying49
  unfold errV
  go_enter Tryd.func18, Tryd.ntmps18
  go_wp2
  go_ret
  exact ⟨rfl, rfl⟩
end Go.Proofs.YtpiohahfdekmhaaDoor.Lk
