/-
  The law IPEncodingMatchesReference of chapter 6, from its walk.
-/
import Derived.Test.YtabfihknhbfjeaaIpEnc
namespace Go.Proofs.Ytabfihknhbfjeaa.Ip
open Go.RowKit Go.Proofs.Ytabfihknhbfjeaa.Wire Go.Proofs.Ytabfihknhbfjeaa.Gen

theorem enc_law (x0 x1 x2 x3 x4 x5 x6 x7 : Int) (xs : ByteArray) (which n size : Int) (w : World)
    (hx0 : In64 x0) (hx1 : In64 x1) (hx2 : In64 x2) (hx3 : In64 x3) (hx4 : In64 x4) (hx5 : In64 x5) (hx6 : In64 x6) (hx7 : In64 x7) (hxs : xs.size ≤ 9223372036854775807) (hwh : In64 which) (hn : In64 n) (hsz : In64 size) :
    Calls Try.prog 3 #[.agg #[.int .i64 x0, .int .i64 x1, .int .i64 x2, .int .i64 x3, .int .i64 x4, .int .i64 x5, .int .i64 x6, .int .i64 x7, .string xs], .int .i64 which, .int .i64 n, .int .i64 size] w fun e w' => e = .returned (.bool true) ∧ Below w.heap.size w w' :=
  enc_walk x0 x1 x2 x3 x4 x5 x6 x7 which n size xs w hwh hn hsz
    (Lib.hid fun w => (packetFrom_any x0 x1 x2 x3 x4 x5 x6 x7 xs w hx0 hx1 hx2 hx3 hx4 hx5 hx6 hx7 hxs).mono fun _ _ ⟨p, h1, h2, h3, h4⟩ => ⟨⟨p, h1, h2, h3⟩, h4⟩)
end Go.Proofs.Ytabfihknhbfjeaa.Ip
