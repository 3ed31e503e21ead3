/-
  The law IPInFrame of chapter 6, from its walk.
-/
import Derived.Test.YtpiohahfdekmhaaDoorLkL30
namespace Go.Proofs.YtpiohahfdekmhaaDoor.Ip
set_option maxRecDepth 100000
open Go.RowKit Go.Proofs.YtpiohahfdekmhaaDoor.Wire Go.Proofs.YtpiohahfdekmhaaDoor.Gen

theorem fr_law (x0 x1 x2 x3 x4 x5 x6 x7 : Int) (xs : ByteArray) (to_ fm_ at_ bit_ : Int) (w : World) (a0 : Addr) (hg : Lk.Gl w a0) (hx0 : In64 x0) (hx1 : In64 x1) (hx2 : In64 x2) (hx3 : In64 x3) (hx4 : In64 x4) (hx5 : In64 x5) (hx6 : In64 x6) (hx7 : In64 x7) (hxs : xs.size ≤ 9223372036854775807) (hto : In64 to_) (hfm : In64 fm_) (hat : In64 at_) (hbit : In64 bit_) :
    Calls Tryd.prog 3 #[.agg #[.int .i64 x0, .int .i64 x1, .int .i64 x2, .int .i64 x3, .int .i64 x4, .int .i64 x5, .int .i64 x6, .int .i64 x7, .string xs], .int .i64 to_, .int .i64 fm_, .int .i64 at_, .int .i64 bit_] w fun e w' => e = .returned (.bool true) ∧ Below w.heap.size w w' :=
  fr_walk x0 x1 x2 x3 x4 x5 x6 x7 to_ fm_ at_ bit_ xs w a0 hg hto hfm hat hbit
    (Lib.hid fun w => (packetFrom_any x0 x1 x2 x3 x4 x5 x6 x7 xs w hx0 hx1 hx2 hx3 hx4 hx5 hx6 hx7 hxs).mono fun _ _ ⟨p, h1, h2, h3, h4⟩ => ⟨⟨p, h1, h2, h3⟩, h4⟩)
end Go.Proofs.YtpiohahfdekmhaaDoor.Ip
