/-
  The law IPRoundTrip of chapter 6, from its walk.
-/
import Derived.Test.YtabfihknhbfjeaaIpRt
namespace Go.Proofs.Ytabfihknhbfjeaa.Ip
open Go.RowKit Go.Proofs.Ytabfihknhbfjeaa.Wire Go.Proofs.Ytabfihknhbfjeaa.Gen

theorem rt_law (x0 x1 x2 x3 x4 x5 x6 x7 y0 y1 y2 y3 y4 y5 y6 y7 : Int) (xs ys : ByteArray) (at_ by_ : Int) (w : World)
    (hx0 : In64 x0) (hx1 : In64 x1) (hx2 : In64 x2) (hx3 : In64 x3) (hx4 : In64 x4) (hx5 : In64 x5) (hx6 : In64 x6) (hx7 : In64 x7) (hxs : xs.size ≤ 9223372036854775807)
    (hy0 : In64 y0) (hy1 : In64 y1) (hy2 : In64 y2) (hy3 : In64 y3) (hy4 : In64 y4) (hy5 : In64 y5) (hy6 : In64 y6) (hy7 : In64 y7) (hys : ys.size ≤ 9223372036854775807) (hat : In64 at_) (hby : In64 by_) :
    Calls Try.prog 5 #[.agg #[.int .i64 x0, .int .i64 x1, .int .i64 x2, .int .i64 x3, .int .i64 x4, .int .i64 x5, .int .i64 x6, .int .i64 x7, .string xs], .agg #[.int .i64 y0, .int .i64 y1, .int .i64 y2, .int .i64 y3, .int .i64 y4, .int .i64 y5, .int .i64 y6, .int .i64 y7, .string ys], .int .i64 at_, .int .i64 by_] w fun e w' => e = .returned (.bool true) ∧ Below w.heap.size w w' :=
  rt_walk x0 x1 x2 x3 x4 x5 x6 x7 y0 y1 y2 y3 y4 y5 y6 y7 at_ by_ xs ys w hat hby
    (Lib.hid fun w => (packetFrom_any x0 x1 x2 x3 x4 x5 x6 x7 xs w hx0 hx1 hx2 hx3 hx4 hx5 hx6 hx7 hxs).mono fun _ _ ⟨p, h1, h2, h3, h4⟩ => ⟨⟨p, h1, h2, h3⟩, h4⟩)
    (Lib.hid fun w => (packetFrom_any y0 y1 y2 y3 y4 y5 y6 y7 ys w hy0 hy1 hy2 hy3 hy4 hy5 hy6 hy7 hys).mono fun _ _ ⟨p, h1, h2, h3, h4⟩ => ⟨⟨p, h1, h2, h3⟩, h4⟩)
end Go.Proofs.Ytabfihknhbfjeaa.Ip
