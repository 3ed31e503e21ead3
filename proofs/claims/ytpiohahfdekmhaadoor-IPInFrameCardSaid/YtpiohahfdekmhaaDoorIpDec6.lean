/-
  ip.DecodeHeader and ip.Decode at every string: what the header must be.
-/
import Derived.Test.YtpiohahfdekmhaaDoorIpDec4
import Derived.Test.YtpiohahfdekmhaaDoorIpDec5
namespace Go.Proofs.YtpiohahfdekmhaaDoor.Ip
set_option maxRecDepth 100000
open Go.RowKit Go.Proofs.YtpiohahfdekmhaaDoor.Wire

/-- the number in k bytes from a on -/
def nAt (s : ByteArray) (a k : Nat) : Int := num (bytesAt s a k)
def dfOf (s : ByteArray) : Bool := bits .and .i64 (nAt s 13 1) 1 != 0
def mfOf (s : ByteArray) : Bool := bits .and .i64 (nAt s 13 1) 2 != 0
/-- the first 20 bytes are the header of a valid datagram -/
def dV (s : ByteArray) : Prop := 20 ≤ s.size ∧ nAt s 0 1 = 4 ∧ VLen (nAt s 1 4) (nAt s 5 4) (nAt s 9 1) (nAt s 10 1) (nAt s 11 2) (dfOf s) (mfOf s) (8 * nAt s 14 2) (nAt s 16 2) ∧ hdr (nAt s 1 4) (nAt s 5 4) (nAt s 9 1) (nAt s 10 1) (nAt s 11 2) (dfOf s) (mfOf s) (8 * nAt s 14 2) (nAt s 16 2) = s.data.toList.take 20
theorem nAt_bd (s : ByteArray) (a k : Nat) : 0 ≤ nAt s a k ∧ nAt s a k < 256 ^ k := by
  have h := num_bd (bytesAt s a k)
  have hl := bytesAt_len_le s a k
  have hp : (256 : Int) ^ (bytesAt s a k).length ≤ 256 ^ k := by
    have := Nat.pow_le_pow_right (n := 256) (by omega) hl
    have e : ∀ n : Nat, (256 : Int) ^ n = ((256 ^ n : Nat) : Int) := fun n => by rw [Int.natCast_pow]; rfl
    rw [e, e]; exact Int.ofNat_le.2 this
  unfold nAt; omega
theorem take20 (s : ByteArray) : (s.extract 0 20).toList = s.data.toList.take 20 := by
  rw [ByteArray.toList_eq]; simp [ByteArray.data_extract, Array.toList_extract]
theorem dheader_true (s : ByteArray) (hs : s.size ≤ 9223372036854775807) (h : dV s) : ∀ (B : Nat) (w : World), w.heap[B]? = some (.cells #[.string s, .int .i64 0, .bool false, .int .i64 0, .int .i64 0, .int .i64 0, .int .i64 0, .int .i64 0, .bool false, .bool false, .int .i64 0, .string ⟨#[]⟩, .int .i64 0] 68) → Calls Tryd.prog 24 #[.pointer (some ⟨B, 0, none⟩)] w fun e w' => e = .returned (.bool true) ∧ w'.heap[B]? = some (.cells #[.string s, .int .i64 20, .bool false, .int .i64 (nAt s 1 4), .int .i64 (nAt s 5 4), .int .i64 (nAt s 9 1), .int .i64 (nAt s 10 1), .int .i64 (nAt s 11 2), .bool (dfOf s), .bool (mfOf s), .int .i64 (8 * nAt s 14 2), .string ⟨#[]⟩, .int .i64 (nAt s 16 2)] 68) ∧ w.grownBy w' (some B) := by
  intro B w hB
  obtain ⟨h1, h2, h3, h4⟩ := h
  have b7 := nAt_bd s 14 2
  have b8 := nAt_bd s 16 2
  refine dheader_long B s w (nAt s 0 1) (nAt s 1 4) (nAt s 5 4) (nAt s 9 1) (nAt s 10 1) (nAt s 11 2) (nAt s 13 1) (nAt s 14 2) (nAt s 16 2) (nAt s 18 2) (dfOf s) (mfOf s) true (hdr (nAt s 1 4) (nAt s 5 4) (nAt s 9 1) (nAt s 10 1) (nAt s 11 2) (dfOf s) (mfOf s) (8 * nAt s 14 2) (nAt s 16 2)) hB h1 hs (Lib.hid rfl) (Lib.hid rfl) (Lib.hid rfl) (Lib.hid rfl) (Lib.hid rfl) (Lib.hid rfl) (Lib.hid rfl) (Lib.hid rfl) (Lib.hid rfl) (Lib.hid rfl) (by simp [h2]) rfl rfl (by omega) (by omega) (Lib.hid fun w => header_ok _ _ _ _ _ _ _ _ ⟨#[]⟩ _ w b8.1 h3) ?_
  rw [take20, h4]; simp
theorem dheader_false (s : ByteArray) (hs : s.size ≤ 9223372036854775807) (h : ¬ dV s) : ∀ (B : Nat) (w : World), w.heap[B]? = some (.cells #[.string s, .int .i64 0, .bool false, .int .i64 0, .int .i64 0, .int .i64 0, .int .i64 0, .int .i64 0, .bool false, .bool false, .int .i64 0, .string ⟨#[]⟩, .int .i64 0] 68) → Calls Tryd.prog 24 #[.pointer (some ⟨B, 0, none⟩)] w fun e w' => e = .returned (.bool false) ∧ w.grownBy w' (some B) := by
  intro B w hB
  rcases Nat.lt_or_ge s.size 1 with c | c1
  · exact dheader_empty B s w hB (by omega)
  by_cases hv : nAt s 0 1 = 4
  · rcases Nat.lt_or_ge s.size 20 with c | c20
    · exact dheader_short B s w hB c1 c hs (Lib.hid hv)
    · have b7 := nAt_bd s 14 2
      have b8 := nAt_bd s 16 2
      by_cases h3 : VLen (nAt s 1 4) (nAt s 5 4) (nAt s 9 1) (nAt s 10 1) (nAt s 11 2) (dfOf s) (mfOf s) (8 * nAt s 14 2) (nAt s 16 2)
      · refine (dheader_long B s w (nAt s 0 1) (nAt s 1 4) (nAt s 5 4) (nAt s 9 1) (nAt s 10 1) (nAt s 11 2) (nAt s 13 1) (nAt s 14 2) (nAt s 16 2) (nAt s 18 2) (dfOf s) (mfOf s) false (hdr (nAt s 1 4) (nAt s 5 4) (nAt s 9 1) (nAt s 10 1) (nAt s 11 2) (dfOf s) (mfOf s) (8 * nAt s 14 2) (nAt s 16 2)) hB c20 hs (Lib.hid rfl) (Lib.hid rfl) (Lib.hid rfl) (Lib.hid rfl) (Lib.hid rfl) (Lib.hid rfl) (Lib.hid rfl) (Lib.hid rfl) (Lib.hid rfl) (Lib.hid rfl) (by simp [hv]) rfl rfl (by omega) (by omega) (Lib.hid fun w => header_ok _ _ _ _ _ _ _ _ ⟨#[]⟩ _ w b8.1 h3) ?_).mono fun _ _ ⟨a, _, b⟩ => ⟨a, b⟩
        rw [take20]
        simp only [beq_eq_false_iff_ne]
        exact fun he => h ⟨c20, hv, h3, he⟩
      · refine (dheader_long B s w (nAt s 0 1) (nAt s 1 4) (nAt s 5 4) (nAt s 9 1) (nAt s 10 1) (nAt s 11 2) (nAt s 13 1) (nAt s 14 2) (nAt s 16 2) (nAt s 18 2) (dfOf s) (mfOf s) false [] hB c20 hs (Lib.hid rfl) (Lib.hid rfl) (Lib.hid rfl) (Lib.hid rfl) (Lib.hid rfl) (Lib.hid rfl) (Lib.hid rfl) (Lib.hid rfl) (Lib.hid rfl) (Lib.hid rfl) (by simp [hv]) rfl rfl (by omega) (by omega) (Lib.hid fun w => header_no _ _ _ _ _ _ _ _ ⟨#[]⟩ _ w b8.1 (by omega) h3) ?_).mono fun _ _ ⟨a, _, b⟩ => ⟨a, b⟩
        rw [take20]
        simp only [beq_eq_false_iff_ne]
        intro he
        have := congrArg List.length he
        have e2 : s.data.toList.length = s.size := rfl
        rw [List.length_take, e2] at this
        simp at this; omega
  · exact dheader_ver B s w (nAt s 0 1) hB c1 hs (Lib.hid rfl) (by simpa using hv)

/-- what DecodeHeader accepts, what Decode accepts -/
def dhOk (s : ByteArray) : Prop := dV s ∧ ((s.size - 20 : Nat) : Int) ≤ nAt s 16 2
def dcOk (s : ByteArray) : Prop := dV s ∧ ((s.size - 20 : Nat) : Int) = nAt s 16 2
def pkOf (s : ByteArray) : Value := .agg #[.int .i64 (nAt s 1 4), .int .i64 (nAt s 5 4), .int .i64 (nAt s 9 1), .int .i64 (nAt s 10 1), .int .i64 (nAt s 11 2), .bool (dfOf s), .bool (mfOf s), .int .i64 (8 * nAt s 14 2), .string (s.extract 20 s.size)]
def pk0 : Value := .agg #[.int .i64 0, .int .i64 0, .int .i64 0, .int .i64 0, .int .i64 0, .bool false, .bool false, .int .i64 0, .string ⟨#[]⟩]
theorem DecodeHeader_ok (s : ByteArray) (w : World) (hs : s.size ≤ 9223372036854775807) (h : dhOk s) :
    Calls Tryd.prog 14 #[.string s] w fun e w' => e = .returned (.tuple #[pkOf s, .int .i64 0]) ∧ Below w.heap.size w w' :=
  DecodeHeader_good s w _ _ _ _ _ (nAt s 14 2) _ _ _ h.1.1 hs (by have := h.2; simp; omega) (Lib.hid (dheader_true s hs h.1))
theorem DecodeHeader_no (s : ByteArray) (w : World) (hs : s.size ≤ 9223372036854775807) (h : ¬ dhOk s) :
    Calls Tryd.prog 14 #[.string s] w fun e w' => e = .returned (.tuple #[pk0, .int .i64 60]) ∧ Below w.heap.size w w' := by
  by_cases hd : dV s
  · have hl : ¬ ((s.size - 20 : Nat) : Int) ≤ nAt s 16 2 := fun q => h ⟨hd, q⟩
    exact DecodeHeader_long s w _ _ _ _ _ (nAt s 14 2) _ _ _ hd.1 hs (by simp; omega) (Lib.hid (dheader_true s hs hd))
  · exact DecodeHeader_bad s w (Lib.hid (dheader_false s hs hd))
theorem Decode_ok (s : ByteArray) (w : World) (hs : s.size ≤ 9223372036854775807) (h : dcOk s) :
    Calls Tryd.prog 10 #[.string s] w fun e w' => e = .returned (.tuple #[pkOf s, .int .i64 0]) ∧ Below w.heap.size w w' :=
  Decode_good s w _ _ _ _ _ (nAt s 14 2) _ _ _ h.1.1 hs (by have := h.2; simp; omega) (Lib.hid (dheader_true s hs h.1))
theorem Decode_no (s : ByteArray) (w : World) (hs : s.size ≤ 9223372036854775807) (h : ¬ dcOk s) :
    Calls Tryd.prog 10 #[.string s] w fun e w' => e = .returned (.tuple #[pk0, .int .i64 60]) ∧ Below w.heap.size w w' := by
  by_cases hd : dV s
  · have hl : ¬ ((s.size - 20 : Nat) : Int) = nAt s 16 2 := fun q => h ⟨hd, q⟩
    exact Decode_other s w _ _ _ _ _ (nAt s 14 2) _ _ _ hd.1 hs (by simp; omega) (Lib.hid (dheader_true s hs hd))
  · exact Decode_bad s w (Lib.hid (dheader_false s hs hd))
end Go.Proofs.YtpiohahfdekmhaaDoor.Ip
