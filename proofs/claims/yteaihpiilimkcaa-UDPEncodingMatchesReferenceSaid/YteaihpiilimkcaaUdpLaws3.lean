/-
  The law UDPEncodingMatchesReference, at every argument.
-/
import Derived.Test.YteaihpiilimkcaaUdpEnc
namespace Go.Proofs.Yteaihpiilimkcaa.Udp
open Go.RowKit Go.Proofs.Yteaihpiilimkcaa.Wire Go.Proofs.Yteaihpiilimkcaa.Gen
theorem enc_law (x0 x1 x2 x3 x4 : Int) (xs : ByteArray) (from_ to_ a b many : Int) (w : World)
    (_ : -9223372036854775808 ≤ x0 ∧ x0 ≤ 9223372036854775807) (_ : -9223372036854775808 ≤ x1 ∧ x1 ≤ 9223372036854775807) (hx2 : -9223372036854775808 ≤ x2 ∧ x2 ≤ 9223372036854775807) (hx3 : -9223372036854775808 ≤ x3 ∧ x3 ≤ 9223372036854775807) (hx4 : -9223372036854775808 ≤ x4 ∧ x4 ≤ 9223372036854775807) (hxs : xs.size ≤ 9223372036854775807)
    (hfr : -9223372036854775808 ≤ from_ ∧ from_ ≤ 9223372036854775807) (hto : -9223372036854775808 ≤ to_ ∧ to_ ≤ 9223372036854775807) (hmy : -9223372036854775808 ≤ many ∧ many ≤ 9223372036854775807) :
    Calls Try.prog 3 #[.agg #[.int .i64 x0, .int .i64 x1, .int .i64 x2, .int .i64 x3, .int .i64 x4, .string xs], .int .i64 from_, .int .i64 to_, .int .i64 a, .int .i64 b, .int .i64 many] w fun e w' => e = .returned (.bool true) ∧ Below w.heap.size w w' := by
  have lx := dataOf_length xs x4
  have hpk := pick_lt many 20 (by omega)
  refine enc_walk x0 x1 x2 x3 x4 from_ to_ a b many (portOf x2) (portOf x3) xs (dataOf xs x4) (payload ⟨(dataOf xs x4).toArray⟩ (1990 + pick many 20).toNat) w hfr hto hmy lx ?_
    (fun w => datagramFrom_any x0 x1 x2 x3 x4 xs w hx2 hx3 hx4 hxs) (fun w => payload_any _ _ w (by omega) (by omega) (by simp only [sz]; omega))
  rw [payload_length]; omega
end Go.Proofs.Yteaihpiilimkcaa.Udp
