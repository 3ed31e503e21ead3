/-
  The reference's Encode refuses what is not valid.
-/
import Derived.Test.YthdggmigjddneaaDnRval
import Derived.Test.YthdggmigjddneaaDnRnm
namespace Go.Proofs.Ythdggmigjddneaa.Dn
set_option maxRecDepth 100000
open Go.RowKit Go.Proofs.Ythdggmigjddneaa.Wire Go.Proofs.Ythdggmigjddneaa.Rw

set_option maxHeartbeats 4000000 in
theorem rencode_no (d : Msg) (A : Option Addr) (c lo : Nat) (w : World) (hf : d.fits) (hr : RRow w lo A c d.recs) (h : msgB d = false) :
    Calls Try.prog 16 #[.agg (mcells d A c).toArray] w fun e w' => e = .returned (.tuple #[.string ⟨#[]⟩, .int .i64 190]) ∧ Below w.heap.size w w' := by
  have hb0 := (Below.refl w.heap.size w).alloc (Nat.le_refl _) (.cells (mcells d A c).toArray 27)
  have HV := Lib.hid (h ▸ rvalid_any d A c lo _ hf (hr.below hb0))
  obtain ⟨id, ans, code, nm, kd, recs⟩ := d
  unfold mcells at *
  have Hm := Lib.hid (alloc_new w (.cells #[.int .i64 id, .bool ans, .int .i64 code, .string ⟨nm.toArray⟩, .int .i64 kd, .slice A recs.length c] 27))
  clear hf hr h
  go_enter Try.func16, Try.ntmps16
  go_wp2_with fail
  refine HV.out.mono ?_
  rintro e w1 ⟨rfl, hb⟩
  go_wp2_with fail
  go_ret2
  exact ⟨rfl, below_call hb0 hb⟩
end Go.Proofs.Ythdggmigjddneaa.Dn
