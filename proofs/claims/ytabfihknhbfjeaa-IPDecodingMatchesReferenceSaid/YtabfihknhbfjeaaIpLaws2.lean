/-
  The law IPDecodingMatchesReference of chapter 6, from its walk.
-/
import Derived.Test.YtabfihknhbfjeaaIpDec18
namespace Go.Proofs.Ytabfihknhbfjeaa.Ip
open Go.RowKit Go.Proofs.Ytabfihknhbfjeaa.Wire Go.Proofs.Ytabfihknhbfjeaa.Gen

theorem dec_law (x0 x1 x2 x3 x4 x5 x6 x7 : Int) (xs s : ByteArray) (at_ by_ : Int) (w : World)
    (hx0 : In64 x0) (hx1 : In64 x1) (hx2 : In64 x2) (hx3 : In64 x3) (hx4 : In64 x4) (hx5 : In64 x5) (hx6 : In64 x6) (hx7 : In64 x7) (hxs : xs.size ≤ 9223372036854775807) (hs : s.size ≤ 9223372036854775807) (hat : In64 at_) :
    Calls Try.prog 4 #[.agg #[.int .i64 x0, .int .i64 x1, .int .i64 x2, .int .i64 x3, .int .i64 x4, .int .i64 x5, .int .i64 x6, .int .i64 x7, .string xs], .string s, .int .i64 at_, .int .u8 by_] w fun e w' => e = .returned (.bool true) ∧ Below w.heap.size w w' :=
  dec_walk x0 x1 x2 x3 x4 x5 x6 x7 at_ by_ xs s w hat hs
    (Lib.hid fun w => (packetFrom_any x0 x1 x2 x3 x4 x5 x6 x7 xs w hx0 hx1 hx2 hx3 hx4 hx5 hx6 hx7 hxs).mono fun _ _ ⟨p, h1, h2, h3, h4⟩ => ⟨⟨p, h1, h2, h3⟩, h4⟩)
end Go.Proofs.Ytabfihknhbfjeaa.Ip
