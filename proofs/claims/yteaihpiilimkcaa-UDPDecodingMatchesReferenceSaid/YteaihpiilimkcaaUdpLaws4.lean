/-
  The law UDPDecodingMatchesReference, at every argument.
-/
import Derived.Test.YteaihpiilimkcaaUdpDec
namespace Go.Proofs.Yteaihpiilimkcaa.Udp
open Go.RowKit Go.Proofs.Yteaihpiilimkcaa.Wire Go.Proofs.Yteaihpiilimkcaa.Gen
theorem dec_law (x0 x1 x2 x3 x4 : Int) (xs s : ByteArray) (from_ to_ at_ by_ : Int) (w : World)
    (hx0 : -9223372036854775808 ≤ x0 ∧ x0 ≤ 9223372036854775807) (hx1 : -9223372036854775808 ≤ x1 ∧ x1 ≤ 9223372036854775807) (hx2 : -9223372036854775808 ≤ x2 ∧ x2 ≤ 9223372036854775807) (hx3 : -9223372036854775808 ≤ x3 ∧ x3 ≤ 9223372036854775807) (hx4 : -9223372036854775808 ≤ x4 ∧ x4 ≤ 9223372036854775807) (hxs : xs.size ≤ 9223372036854775807)
    (hs : s.size ≤ 9223372036854775807) (hat : -9223372036854775808 ≤ at_ ∧ at_ ≤ 9223372036854775807) :
    Calls Try.prog 4 #[.agg #[.int .i64 x0, .int .i64 x1, .int .i64 x2, .int .i64 x3, .int .i64 x4, .string xs], .string s, .int .i64 from_, .int .i64 to_, .int .i64 at_, .int .u8 by_] w fun e w' => e = .returned (.bool true) ∧ Below w.heap.size w w' := by
  have lx := dataOf_length xs x4
  have o3 := ok_of (addrOf x0) (addrOf x1) (portOf x2) (portOf x3) (dataOf xs x4) (addrOf_bd x0) (addrOf_bd x1) (portOf_bd x2) (portOf_bd x3) (by omega)
  have l3 := enc_length (addrOf x0) (addrOf x1) (portOf x2) (portOf x3) (dataOf xs x4)
  refine dec_walk x0 x1 x2 x3 x4 from_ to_ at_ by_ (portOf x2) (portOf x3) xs s (dataOf xs x4) (enc (addrOf x0) (addrOf x1) (portOf x2) (portOf x3) (dataOf xs x4)) w hx0 hx1 hat hs (by omega) (by omega)
    (fun w => datagramFrom_any x0 x1 x2 x3 x4 xs w hx2 hx3 hx4 hxs) (fun w => ?_)
  have := rEncode_ok (addrOf x0) (addrOf x1) (portOf x2) (portOf x3) ⟨(dataOf xs x4).toArray⟩ w o3
  simpa using this
end Go.Proofs.Yteaihpiilimkcaa.Udp
