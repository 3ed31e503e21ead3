/-
  Encode, Decode and Valid of the program and of the reference give the same result at every argument.
-/
import Derived.Test.YteaihpiilimkcaaRef10
import Derived.Test.YteaihpiilimkcaaUdpLaws1
namespace Go.Proofs.Yteaihpiilimkcaa.Udp
open Go.RowKit Go.Proofs.Yteaihpiilimkcaa.Wire Go.Proofs.Yteaihpiilimkcaa.Gen

def encS (a b f t : Int) (s : ByteArray) : ByteArray := if encOk a b f t s.size then ⟨(enc a b f t s.data.toList).toArray⟩ else ⟨#[]⟩
def encN (a b f t : Int) (s : ByteArray) : Int := if encOk a b f t s.size then 0 else 100
theorem Encode_any (a b f t : Int) (s : ByteArray) (w : World) (hs : s.size ≤ 9223372036854775807) :
    Calls Try.prog 12 #[.int .i64 a, .int .i64 b, .agg #[.int .i64 f, .int .i64 t, .string s]] w fun e w' => e = .returned (.tuple #[.string (encS a b f t s), .int .i64 (encN a b f t s)]) ∧ Below w.heap.size w w' := by
  unfold encS encN
  cases h : encOk a b f t s.size
  · exact Encode_no a b f t s w hs h
  · exact Encode_ok a b f t s w h
theorem rEncode_any (a b f t : Int) (s : ByteArray) (w : World) (hs : s.size ≤ 9223372036854775807) :
    Calls Try.prog 13 #[.int .i64 a, .int .i64 b, .agg #[.int .i64 f, .int .i64 t, .string s]] w fun e w' => e = .returned (.tuple #[.string (encS a b f t s), .int .i64 (encN a b f t s)]) ∧ Below w.heap.size w w' := by
  unfold encS encN
  cases h : encOk a b f t s.size
  · exact rEncode_no a b f t s w hs h
  · exact rEncode_ok a b f t s w h
open Classical in
noncomputable def decV (a b : Int) (s : ByteArray) : Value := if decOk a b s then .agg #[.int .i64 (num (bytesAt s 0 2)), .int .i64 (num (bytesAt s 2 2)), .string (s.extract 8 s.size)] else .agg #[.int .i64 0, .int .i64 0, .string ⟨#[]⟩]
open Classical in
noncomputable def decN (a b : Int) (s : ByteArray) : Int := if decOk a b s then 0 else 100
theorem Decode_any (a b : Int) (s : ByteArray) (w : World) (hs : s.size ≤ 9223372036854775807) :
    Calls Try.prog 16 #[.int .i64 a, .int .i64 b, .string s] w fun e w' => e = .returned (.tuple #[decV a b s, .int .i64 (decN a b s)]) ∧ Below w.heap.size w w' := by
  unfold decV decN
  by_cases h : decOk a b s
  · rw [if_pos h, if_pos h]; exact Decode_good a b s w hs h
  · rw [if_neg h, if_neg h]; exact Decode_err a b s w hs h
theorem rDecode_any (a b : Int) (s : ByteArray) (w : World) (hs : s.size ≤ 9223372036854775807) :
    Calls Try.prog 17 #[.int .i64 a, .int .i64 b, .string s] w fun e w' => e = .returned (.tuple #[decV a b s, .int .i64 (decN a b s)]) ∧ Below w.heap.size w w' := by
  unfold decV decN
  by_cases h : decOk a b s
  · rw [if_pos h, if_pos h]; exact rDecode_ok a b s w hs h.1 h.2.1 h.2.2
  · rw [if_neg h, if_neg h]
    by_cases h8 : 8 ≤ s.size
    · cases hk : encOk a b (num (bytesAt s 0 2)) (num (bytesAt s 2 2)) (s.extract 8 s.size).size
      · exact rDecode_bad a b s w hs h8 hk
      · exact rDecode_other a b s w hs h8 hk (fun he => h ⟨h8, hk, he⟩)
    · exact rDecode_short a b s w (by omega)
theorem decV_form (a b : Int) (s : ByteArray) : ∃ (f t : Int) (x : ByteArray), decV a b s = .agg #[.int .i64 f, .int .i64 t, .string x] := by
  unfold decV
  by_cases h : decOk a b s
  · rw [if_pos h]; exact ⟨_, _, _, rfl⟩
  · rw [if_neg h]; exact ⟨_, _, _, rfl⟩
end Go.Proofs.Yteaihpiilimkcaa.Udp
