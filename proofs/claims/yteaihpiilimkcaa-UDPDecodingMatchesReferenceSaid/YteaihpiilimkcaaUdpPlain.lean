/-
  Plain laws of udp's encoding: it is decoded; a changed byte, a changed address, a changed length is not.
-/
import Derived.Test.YteaihpiilimkcaaPlain
import Derived.Test.YteaihpiilimkcaaUdp4
namespace Go.Proofs.Yteaihpiilimkcaa.Udp
open Go.RowKit Go.Proofs.Yteaihpiilimkcaa.Wire

theorem head_length (f t : Int) (n : Nat) : (head f t n).length = 6 := by simp [head, be_length]
theorem pseudo_length (a b : Int) (n : Nat) : (pseudo a b n).length = 12 := by simp [pseudo, be_length]
theorem enc_length (a b f t : Int) (l : List UInt8) : (enc a b f t l).length = 8 + l.length := by
  simp [enc, head_length, be_length]; omega

def decOk (a b : Int) (s : ByteArray) : Prop :=
  8 ≤ s.size ∧ encOk a b (num (bytesAt s 0 2)) (num (bytesAt s 2 2)) (s.extract 8 s.size).size = true ∧ dEnc a b s = s.data.toList

theorem Decode_good (a b : Int) (s : ByteArray) (w : World) (hs : s.size ≤ 9223372036854775807) (h : decOk a b s) :
    Calls Try.prog 16 #[.int .i64 a, .int .i64 b, .string s] w fun e w' => e = .returned (.tuple #[.agg #[.int .i64 (num (bytesAt s 0 2)), .int .i64 (num (bytesAt s 2 2)), .string (s.extract 8 s.size)], .int .i64 0]) ∧ Below w.heap.size w w' :=
  Decode_yes a b s w _ _ _ fun w => decode_ok a b s w hs h.1 h.2.1 h.2.2
theorem Decode_err (a b : Int) (s : ByteArray) (w : World) (hs : s.size ≤ 9223372036854775807) (h : ¬ decOk a b s) :
    Calls Try.prog 16 #[.int .i64 a, .int .i64 b, .string s] w fun e w' => e = .returned (.tuple #[.agg #[.int .i64 0, .int .i64 0, .string ⟨#[]⟩], .int .i64 100]) ∧ Below w.heap.size w w' := by
  by_cases h8 : 8 ≤ s.size
  · cases hk : encOk a b (num (bytesAt s 0 2)) (num (bytesAt s 2 2)) (s.extract 8 s.size).size
    · exact Decode_no a b s w fun w => decode_bad a b s w hs h8 hk
    · exact Decode_no a b s w fun w => decode_other a b s w hs h8 hk fun he => h ⟨h8, hk, he⟩
  · exact Decode_no a b s w fun w => decode_short a b s w (by omega)

theorem extract_tail (l : List UInt8) (k : Nat) : ((⟨l.toArray⟩ : ByteArray).extract k (⟨l.toArray⟩ : ByteArray).size).data.toList = l.drop k := by
  have e : (⟨l.toArray⟩ : ByteArray).size = l.length := rfl
  rw [e]
  simp [ByteArray.data_extract]
  exact List.take_of_length_le (by simp)
theorem extract_size (s : ByteArray) (k : Nat) : (s.extract k s.size).size = s.size - k := by simp

theorem enc_from (a b f t : Int) (l : List UInt8) (h0 : 0 ≤ f) (h1 : f < 65536) : num (bytesAt ⟨(enc a b f t l).toArray⟩ 0 2) = f := by
  have e : bytesAt ⟨(enc a b f t l).toArray⟩ 0 2 = be 2 f := by
    show ((enc a b f t l).drop 0).take 2 = _
    unfold enc head
    rw [List.drop_zero, List.append_assoc, List.append_assoc, List.append_assoc, List.take_append_of_le_length (by simp [be_length])]
    exact List.take_of_length_le (by simp [be_length])
  rw [e]; exact num_be 2 f h0 (by simpa using h1)
theorem enc_to (a b f t : Int) (l : List UInt8) (h0 : 0 ≤ t) (h1 : t < 65536) : num (bytesAt ⟨(enc a b f t l).toArray⟩ 2 2) = t := by
  have e : bytesAt ⟨(enc a b f t l).toArray⟩ 2 2 = be 2 t := by
    show ((enc a b f t l).drop 2).take 2 = _
    unfold enc head
    rw [List.append_assoc, List.append_assoc, List.append_assoc, List.drop_append_of_le_length (by simp [be_length]), List.drop_of_length_le (by simp [be_length]), List.nil_append, List.take_append_of_le_length (by simp [be_length])]
    exact List.take_of_length_le (by simp [be_length])
  rw [e]; exact num_be 2 t h0 (by simpa using h1)
theorem enc_rest (a b f t : Int) (l : List UInt8) : ((⟨(enc a b f t l).toArray⟩ : ByteArray).extract 8 (⟨(enc a b f t l).toArray⟩ : ByteArray).size).data.toList = l := by
  rw [extract_tail]
  unfold enc
  rw [List.drop_append_of_le_length (by simp [head_length, be_length]), List.drop_of_length_le (by simp [head_length, be_length]), List.nil_append]

theorem valid_ports {f t : Int} {k : Nat} (h : validB f t k = true) : (1 ≤ f ∧ f ≤ 65535) ∧ (1 ≤ t ∧ t ≤ 65535) ∧ k ≤ 2000 := by
  simp [validB, portB] at h; omega
theorem enc_valid {a b f t : Int} {k : Nat} (h : encOk a b f t k = true) : validB f t k = true ∧ (a == 0) = false ∧ (b == 0) = false ∧ addrB a = true ∧ addrB b = true := by
  simp only [encOk, Bool.and_eq_true, Bool.not_eq_true'] at h
  exact ⟨h.1.1.1.1, h.1.1.1.2, h.1.1.2, h.1.2, h.2⟩

theorem round (a b f t : Int) (l : List UInt8) (h : encOk a b f t l.length = true) : decOk a b ⟨(enc a b f t l).toArray⟩ := by
  obtain ⟨⟨hf1, hf2⟩, ⟨ht1, ht2⟩, hl⟩ := valid_ports (enc_valid h).1
  have e1 := enc_from a b f t l (by omega) (by omega)
  have e2 := enc_to a b f t l (by omega) (by omega)
  have e3 := enc_rest a b f t l
  have e4 : ((⟨(enc a b f t l).toArray⟩ : ByteArray).extract 8 (⟨(enc a b f t l).toArray⟩ : ByteArray).size).size = l.length := congrArg List.length e3
  refine ⟨by rw [sz, enc_length]; omega, ?_, ?_⟩
  · rw [e1, e2, e4]; exact h
  · unfold dEnc; rw [e1, e2, e3]

/-- whatever is decoded: the words of the pseudo-header and of the datagram sum up to a multiple of 65535 -/
theorem dec_sum (a b : Int) (s : ByteArray) (h : decOk a b s) : (ws (pseudo a b (s.size - 8)) + ws s.data.toList) % 65535 = 0 := by
  obtain ⟨h8, hk, he⟩ := h
  rw [← he]
  unfold dEnc
  generalize hf : num (bytesAt s 0 2) = f at *
  generalize ht : num (bytesAt s 2 2) = t at *
  have hl : (s.extract 8 s.size).data.toList.length = s.size - 8 := extract_size s 8
  generalize (s.extract 8 s.size).data.toList = l at *
  have hb := csum_bd ⟨(pseudo a b l.length ++ head f t l.length ++ be 2 0 ++ l).toArray⟩
  have hm := csum_mod (pseudo a b l.length ++ head f t l.length ++ be 2 0 ++ l)
  have e1 : ws (pseudo a b l.length ++ head f t l.length ++ be 2 0 ++ l) = ws (pseudo a b l.length) + ws (head f t l.length) + ws (be 2 0) + ws l := by
    rw [ws_append _ _ (by simp [pseudo_length, head_length, be_length]), ws_append _ _ (by simp [pseudo_length, head_length]), ws_append _ _ (by simp [pseudo_length])]
  have e2 : ws (enc a b f t l) = ws (head f t l.length) + csum ⟨(pseudo a b l.length ++ head f t l.length ++ be 2 0 ++ l).toArray⟩ + ws l := by
    unfold enc sumOf
    rw [ws_append _ _ (by simp [head_length, be_length]), ws_append _ _ (by simp [head_length]), ws_be2 _ hb.1 (by omega)]
  have e3 : ws (be 2 0) = 0 := ws_be2 0 (by omega) (by omega)
  rw [← hl, e2]
  rw [e1, e3] at hm
  omega

/-- one byte changed: not decoded -/
theorem flip_bad (a b : Int) (s : ByteArray) (h : decOk a b s) (k : Nat) (v : UInt8) (hk : k < s.data.toList.length) (hv : v ≠ s.data.toList[k]) : ¬ decOk a b ⟨(s.data.toList.set k v).toArray⟩ := by
  intro h'
  have h1 := dec_sum a b s h
  have h2 := dec_sum a b _ h'
  have e : (⟨(s.data.toList.set k v).toArray⟩ : ByteArray).size = s.size := by rw [sz, List.length_set]; rfl
  rw [e] at h2
  have e2 : (⟨(s.data.toList.set k v).toArray⟩ : ByteArray).data.toList = s.data.toList.set k v := by simp
  rw [e2, ws_set _ _ _ hk] at h2
  have hb1 := u8_bd v
  have hb2 := u8_bd s.data.toList[k]
  have hne : (v.toNat : Int) ≠ (s.data.toList[k].toNat : Int) := fun q => hv (UInt8.toNat_inj.1 (Int.ofNat_inj.1 q))
  split at h2 <;> omega

/-- another length: not decoded -/
theorem length_bad (a b : Int) (l : List UInt8) (hl : l.length ≤ 2000) (s : ByteArray) (hs : s.size ≠ 8 + l.length) (hs2 : s.size ≤ 60000) (hp : bytesAt s 4 2 = be 2 (8 + l.length)) : ¬ decOk a b s := by
  intro h
  obtain ⟨h8, hk, he⟩ := h
  have hx : (s.extract 8 s.size).data.toList.length = s.size - 8 := extract_size s 8
  have e : bytesAt s 4 2 = be 2 (8 + (s.extract 8 s.size).data.toList.length) := by
    unfold bytesAt
    rw [← he]
    unfold dEnc enc head
    rw [List.append_assoc, List.append_assoc, List.append_assoc, List.drop_append, List.drop_of_length_le (by simp [be_length]), List.nil_append, be_length, List.drop_append, List.drop_of_length_le (by simp [be_length]), List.nil_append, be_length]
    rw [List.drop_zero, List.take_append_of_le_length (by simp [be_length])]
    exact List.take_of_length_le (by simp [be_length])
  rw [hp, hx] at e
  have := be_inj 2 _ _ (by omega) (by simp; omega) (by omega) (by simp; omega) e
  omega

/-- another source address whose words sum up to something else: not decoded -/
theorem source_bad (a b a' : Int) (s : ByteArray) (h : decOk a b s) (hd : (ws (be 4 a') - ws (be 4 a)) % 65535 ≠ 0) : ¬ decOk a' b s := by
  intro h'
  have h1 := dec_sum a b s h
  have h2 := dec_sum a' b s h'
  have e : ∀ x, ws (pseudo x b (s.size - 8)) = ws (be 4 x) + ws (be 4 b ++ be 1 0 ++ be 1 17 ++ be 2 (8 + (s.size - 8 : Nat))) := by
    intro x
    unfold pseudo
    rw [List.append_assoc, List.append_assoc, List.append_assoc, ws_append _ _ (by simp [be_length])]
    congr 2
  rw [e] at h1 h2
  omega
end Go.Proofs.Yteaihpiilimkcaa.Udp
