/-
  The law UDPPayload returns true: the walk joined with the plain facts.
-/
import Derived.Test.YteaihpiilimkcaaUdpPay
namespace Go.Proofs.Yteaihpiilimkcaa.Udp
open Go.RowKit Go.Proofs.Yteaihpiilimkcaa.Wire Go.Proofs.Yteaihpiilimkcaa.Gen

theorem enc_split (a b f t : Int) (l : List UInt8) : (enc a b f t l).take 6 = head f t l.length ∧ (enc a b f t l).drop 8 = l := by
  constructor
  · unfold enc
    rw [List.append_assoc, List.take_append_of_le_length (by simp [head_length])]
    exact List.take_of_length_le (by simp [head_length])
  · unfold enc
    rw [List.drop_append_of_le_length (by simp [head_length, be_length]), List.drop_of_length_le (by simp [head_length, be_length]), List.nil_append]
theorem ok_of (a b f t : Int) (l : List UInt8) (ha : 1 ≤ a ∧ a ≤ 4294967295) (hb : 1 ≤ b ∧ b ≤ 4294967295) (hf : 1 ≤ f ∧ f ≤ 65535) (ht : 1 ≤ t ∧ t ≤ 65535) (hl : l.length ≤ 2000) : encOk a b f t l.length = true := by
  simp [encOk, validB, portB, addrB]; omega
theorem enc_inj (a b f t f' t' : Int) (l l' : List UInt8) (h : encOk a b f t l.length = true) (h' : encOk a b f' t' l'.length = true) (he : enc a b f t l = enc a b f' t' l') : f = f' ∧ t = t' ∧ l = l' := by
  obtain ⟨⟨hf1, hf2⟩, ⟨ht1, ht2⟩, hl⟩ := valid_ports (enc_valid h).1
  obtain ⟨⟨hf1', hf2'⟩, ⟨ht1', ht2'⟩, hl'⟩ := valid_ports (enc_valid h').1
  have e1 := enc_from a b f t l (by omega) (by omega)
  have e2 := enc_to a b f t l (by omega) (by omega)
  have e3 := (enc_split a b f t l).2
  rw [he] at e1 e2 e3
  rw [enc_from a b f' t' l' (by omega) (by omega)] at e1
  rw [enc_to a b f' t' l' (by omega) (by omega)] at e2
  rw [(enc_split a b f' t' l').2] at e3
  exact ⟨e1.symm, e2.symm, e3.symm⟩

theorem Encode_list (a b f t : Int) (l : List UInt8) (h : encOk a b f t l.length = true) (w : World) :
    Calls Try.prog 12 #[.int .i64 a, .int .i64 b, .agg #[.int .i64 f, .int .i64 t, .string ⟨l.toArray⟩]] w fun e w' => e = .returned (.tuple #[.string ⟨(enc a b f t l).toArray⟩, .int .i64 0]) ∧ Below w.heap.size w w' := by
  have := Encode_ok a b f t ⟨l.toArray⟩ w h
  simpa using this

theorem payload_law (x0 x1 x2 x3 x4 y0 y1 y2 y3 y4 : Int) (xs ys : ByteArray) (w : World)
    (hx0 : -9223372036854775808 ≤ x0 ∧ x0 ≤ 9223372036854775807) (hx1 : -9223372036854775808 ≤ x1 ∧ x1 ≤ 9223372036854775807) (hx2 : -9223372036854775808 ≤ x2 ∧ x2 ≤ 9223372036854775807) (hx3 : -9223372036854775808 ≤ x3 ∧ x3 ≤ 9223372036854775807) (hx4 : -9223372036854775808 ≤ x4 ∧ x4 ≤ 9223372036854775807) (hxs : xs.size ≤ 9223372036854775807)
    (hy0 : -9223372036854775808 ≤ y0 ∧ y0 ≤ 9223372036854775807) (hy1 : -9223372036854775808 ≤ y1 ∧ y1 ≤ 9223372036854775807) (hy2 : -9223372036854775808 ≤ y2 ∧ y2 ≤ 9223372036854775807) (hy3 : -9223372036854775808 ≤ y3 ∧ y3 ≤ 9223372036854775807) (hy4 : -9223372036854775808 ≤ y4 ∧ y4 ≤ 9223372036854775807) (hys : ys.size ≤ 9223372036854775807) :
    Calls Try.prog 6 #[.agg #[.int .i64 x0, .int .i64 x1, .int .i64 x2, .int .i64 x3, .int .i64 x4, .string xs], .agg #[.int .i64 y0, .int .i64 y1, .int .i64 y2, .int .i64 y3, .int .i64 y4, .string ys]] w fun e w' => e = .returned (.bool true) ∧ Below w.heap.size w w' := by
  have lx := dataOf_length xs x4
  have ly := dataOf_length ys y4
  have o1 := ok_of 1 2 (portOf x2) (portOf x3) (dataOf xs x4) (by omega) (by omega) (portOf_bd x2) (portOf_bd x3) (by omega)
  have o2 := ok_of 1 2 (portOf y2) (portOf y3) (dataOf ys y4) (by omega) (by omega) (portOf_bd y2) (portOf_bd y3) (by omega)
  have o3 := ok_of (addrOf x0) (addrOf x1) (portOf x2) (portOf x3) (dataOf xs x4) (addrOf_bd x0) (addrOf_bd x1) (portOf_bd x2) (portOf_bd x3) (by omega)
  have l1 := enc_length 1 2 (portOf x2) (portOf x3) (dataOf xs x4)
  have l3 := enc_length (addrOf x0) (addrOf x1) (portOf x2) (portOf x3) (dataOf xs x4)
  refine payload_walk x0 x1 x2 x3 x4 y0 y1 y2 y3 y4 (portOf x2) (portOf x3) (portOf y2) (portOf y3) xs ys (dataOf xs x4) (dataOf ys y4) (enc 1 2 (portOf x2) (portOf x3) (dataOf xs x4)) (enc 1 2 (portOf y2) (portOf y3) (dataOf ys y4)) (enc (addrOf x0) (addrOf x1) (portOf x2) (portOf x3) (dataOf xs x4)) w
    hx0 hx1 hx2 hx3 hx4 hy0 hy1 hy2 hy3 hy4 ?_ (by omega) (by omega) (by rw [l1, l3]; simp) (by rw [(enc_split _ _ _ _ _).2]; simp) (by rw [(enc_split _ _ _ _ _).2]; simp) (by rw [(enc_split _ _ _ _ _).1, (enc_split _ _ _ _ _).1]; simp) (by omega) (by omega)
    (fun w => datagramFrom_any x0 x1 x2 x3 x4 xs w hx2 hx3 hx4 hxs) (fun w => datagramFrom_any y0 y1 y2 y3 y4 ys w hy2 hy3 hy4 hys) (Encode_list _ _ _ _ _ o1) (Encode_list _ _ _ _ _ o2) (Encode_list _ _ _ _ _ o3)
  have hinj := enc_inj 1 2 _ _ _ _ _ _ o1 o2
  generalize hR1 : enc 1 2 (portOf x2) (portOf x3) (dataOf xs x4) = R1 at *
  generalize hR2 : enc 1 2 (portOf y2) (portOf y3) (dataOf ys y4) = R2 at *
  by_cases c1 : portOf x2 = portOf y2
  · by_cases c2 : portOf x3 = portOf y3
    · by_cases c3 : dataOf xs x4 = dataOf ys y4
      · refine .inr (.inr (.inr ⟨by simp [c1], by simp [c2], by simp [c3], ?_⟩))
        rw [← hR1, ← hR2, c1, c2, c3]; simp
      · exact .inr (.inr (.inl ⟨by simp [c1], by simp [c2], by simp [c3], by simp; exact fun h => c3 (hinj h).2.2⟩))
    · exact .inr (.inl ⟨by simp [c1], by simp [c2], by simp; exact fun h => c2 (hinj h).2.1⟩)
  · exact .inl ⟨by simp [c1], by simp; exact fun h => c1 (hinj h).1⟩

end Go.Proofs.Yteaihpiilimkcaa.Udp
