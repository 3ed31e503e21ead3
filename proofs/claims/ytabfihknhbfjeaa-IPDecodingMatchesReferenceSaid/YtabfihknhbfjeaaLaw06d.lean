/-
  Decode and DecodeHeader and their references return the same at every string.
-/
import Derived.Test.YtabfihknhbfjeaaLaw06r
import Derived.Test.YtabfihknhbfjeaaRef06e
namespace Go.Proofs.Ytabfihknhbfjeaa.Ip
open Go.RowKit Go.Proofs.Ytabfihknhbfjeaa.Wire Go.Proofs.Ytabfihknhbfjeaa.Gen

theorem dec_both (s : ByteArray) (hs : s.size ≤ 9223372036854775807) : ∃ (p : Pk) (n : Int),
    Hid (∀ w, Calls Try.prog 19 #[.string s] w fun e w' => e = .returned (.tuple #[.agg #[.int .i64 p.f, .int .i64 p.t, .int .i64 p.pr, .int .i64 p.ttl, .int .i64 p.id, .bool p.df, .bool p.mf, .int .i64 p.off, .string p.s], .int .i64 n]) ∧ Below w.heap.size w w') ∧
    Hid (∀ w, Calls Try.prog 20 #[.string s] w fun e w' => e = .returned (.tuple #[.agg #[.int .i64 p.f, .int .i64 p.t, .int .i64 p.pr, .int .i64 p.ttl, .int .i64 p.id, .bool p.df, .bool p.mf, .int .i64 p.off, .string p.s], .int .i64 n]) ∧ Below w.heap.size w w') := by
  by_cases h : dcOk s
  · exact ⟨⟨nAt s 1 4, nAt s 5 4, nAt s 9 1, nAt s 10 1, nAt s 11 2, dfOf s, mfOf s, 8 * nAt s 14 2, s.extract 20 s.size⟩, 0, Lib.hid fun w => Decode_ok s w hs h, Lib.hid fun w => rDecode_ok s w hs h⟩
  · exact ⟨⟨0, 0, 0, 0, 0, false, false, 0, ⟨#[]⟩⟩, 60, Lib.hid fun w => Decode_no s w hs h, Lib.hid fun w => rDecode_no s w hs h⟩
theorem dech_both (s : ByteArray) (hs : s.size ≤ 9223372036854775807) : ∃ (p : Pk) (n : Int),
    Hid (∀ w, Calls Try.prog 21 #[.string s] w fun e w' => e = .returned (.tuple #[.agg #[.int .i64 p.f, .int .i64 p.t, .int .i64 p.pr, .int .i64 p.ttl, .int .i64 p.id, .bool p.df, .bool p.mf, .int .i64 p.off, .string p.s], .int .i64 n]) ∧ Below w.heap.size w w') ∧
    Hid (∀ w, Calls Try.prog 22 #[.string s] w fun e w' => e = .returned (.tuple #[.agg #[.int .i64 p.f, .int .i64 p.t, .int .i64 p.pr, .int .i64 p.ttl, .int .i64 p.id, .bool p.df, .bool p.mf, .int .i64 p.off, .string p.s], .int .i64 n]) ∧ Below w.heap.size w w') := by
  by_cases h : dhOk s
  · exact ⟨⟨nAt s 1 4, nAt s 5 4, nAt s 9 1, nAt s 10 1, nAt s 11 2, dfOf s, mfOf s, 8 * nAt s 14 2, s.extract 20 s.size⟩, 0, Lib.hid fun w => DecodeHeader_ok s w hs h, Lib.hid fun w => rDecodeHeader_ok s w hs h⟩
  · exact ⟨⟨0, 0, 0, 0, 0, false, false, 0, ⟨#[]⟩⟩, 60, Lib.hid fun w => DecodeHeader_no s w hs h, Lib.hid fun w => rDecodeHeader_no s w hs h⟩
theorem renc_pk (p : Pk) (hp : p.ok) : ∃ R : List UInt8, 20 ≤ R.length ∧ R.length ≤ 4020 ∧
    Hid (∀ w, Calls Try.prog 12 #[.agg #[.int .i64 p.f, .int .i64 p.t, .int .i64 p.pr, .int .i64 p.ttl, .int .i64 p.id, .bool p.df, .bool p.mf, .int .i64 p.off, .string p.s]] w fun e w' => e = .returned (.tuple #[.string ⟨R.toArray⟩, .int .i64 0]) ∧ Below w.heap.size w w') := by
  have hs : p.s.size ≤ 4000 := by have := hp; unfold Pk.ok VLen at this; omega
  have hl := encP_length p
  exact ⟨encP p, by omega, by omega, Lib.hid fun w => rEncode_ok p.f p.t p.pr p.ttl p.id p.df p.mf p.off p.s w hp⟩
end Go.Proofs.Ytabfihknhbfjeaa.Ip
