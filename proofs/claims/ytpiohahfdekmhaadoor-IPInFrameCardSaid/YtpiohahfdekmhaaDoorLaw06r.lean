/-
  What the laws of chapter 6 use of datagrams: equality, the facts on an encoding, changed encodings.
-/
import Derived.Test.YtpiohahfdekmhaaDoorLaw06t
import Derived.Test.YtpiohahfdekmhaaDoorRef01
import Derived.Laws.StructEq
namespace Go.Proofs.YtpiohahfdekmhaaDoor.Ip
set_option maxRecDepth 100000
open Go.RowKit Go.Proofs.YtpiohahfdekmhaaDoor.Wire Go.Proofs.YtpiohahfdekmhaaDoor.Gen

/-- are two datagrams equal? -/
def pkEqB (p q : Pk) : Bool := (p.f == q.f) && (p.t == q.t) && (p.pr == q.pr) && (p.ttl == q.ttl) && (p.id == q.id) && (p.df == q.df) && (p.mf == q.mf) && (p.off == q.off) && (p.s.toList == q.s.toList)
theorem pkEqB_iff (p q : Pk) : pkEqB p q = true ↔ p = q := by
  obtain ⟨f, t, pr, ttl, id, df, mf, off, s⟩ := p
  obtain ⟨f', t', pr', ttl', id', df', mf', off', s'⟩ := q
  simp only [pkEqB, Bool.and_eq_true, beq_iff_eq, Pk.mk.injEq]
  constructor
  · rintro ⟨⟨⟨⟨⟨⟨⟨⟨a, b⟩, c⟩, d⟩, e⟩, g⟩, h⟩, i⟩, j⟩
    refine ⟨a, b, c, d, e, g, h, i, ?_⟩
    rw [ByteArray.toList_eq, ByteArray.toList_eq] at j
    exact ByteArray.ext (Array.ext' j)
  · rintro ⟨a, b, c, d, e, g, h, i, j⟩
    exact ⟨⟨⟨⟨⟨⟨⟨⟨a, b⟩, c⟩, d⟩, e⟩, g⟩, h⟩, i⟩, by rw [j]⟩
set_option maxRecDepth 100000 in
set_option maxHeartbeats 1000000 in
theorem eqPk (p q : Pk) : ∀ w : World, (Op.equalIn 10000 26 (.agg #[.int .i64 p.f, .int .i64 p.t, .int .i64 p.pr, .int .i64 p.ttl, .int .i64 p.id, .bool p.df, .bool p.mf, .int .i64 p.off, .string p.s]) (.agg #[.int .i64 q.f, .int .i64 q.t, .int .i64 q.pr, .int .i64 q.ttl, .int .i64 q.id, .bool q.df, .bool q.mf, .int .i64 q.off, .string q.s])).run Tryd.prog w = .ok (pkEqB p q) w := by
  intro w
  unfold pkEqB
  go_simp
  by_cases h0 : p.f = q.f
  case neg => rw [if_neg h0]; simp [h0]
  rw [if_pos h0]
  by_cases h1 : p.t = q.t
  case neg => rw [if_neg h1]; simp [h1]
  rw [if_pos h1]
  by_cases h2 : p.pr = q.pr
  case neg => rw [if_neg h2]; simp [h2]
  rw [if_pos h2]
  by_cases h3 : p.ttl = q.ttl
  case neg => rw [if_neg h3]; simp [h3]
  rw [if_pos h3]
  by_cases h4 : p.id = q.id
  case neg => rw [if_neg h4]; simp [h4]
  rw [if_pos h4]
  by_cases h5 : p.df = q.df
  case neg => rw [if_neg h5]; simp [h5]
  rw [if_pos h5]
  by_cases h6 : p.mf = q.mf
  case neg => rw [if_neg h6]; simp [h6]
  rw [if_pos h6]
  by_cases h7 : p.off = q.off
  case neg => rw [if_neg h7]; simp [h7]
  rw [if_pos h7]
  by_cases h8 : p.s.toList = q.s.toList
  case neg => rw [if_neg h8]; simp [h8]
  rw [if_pos h8]
  simp [h0, h1, h2, h3, h4, h5, h6, h7, h8]
theorem wrap_u8 (n : Int) (h0 : 0 ≤ n) (h1 : n ≤ 255) : IntKind.u8.wrap n = n := by rw [IntKind.wrap_u8]; omega
theorem xor_ne (b : UInt8) (d : Nat) (h : d ≤ 254) : UInt8.ofNat (bits .xor .u8 (b.toNat : Int) (1 + (d : Int))).toNat ≠ b := by
  have e : bits .xor .u8 (b.toNat : Int) (1 + (d : Int)) = ((b.toNat ^^^ (1 + d) : Nat) : Int) := by
    unfold bits
    show IntKind.u8.wrap ((BitVec.ofInt 8 (b.toNat : Int) ^^^ BitVec.ofInt 8 (1 + (d : Int))).toNat : Int) = _
    have hb := b.toNat_lt
    have e1 : (BitVec.ofInt 8 (b.toNat : Int)).toNat = b.toNat := by rw [BitVec.toNat_ofInt]; omega
    have e2 : (BitVec.ofInt 8 (1 + (d : Int))).toNat = 1 + d := by rw [BitVec.toNat_ofInt]; omega
    have hx : b.toNat ^^^ (1 + d) < 2 ^ 8 := Nat.xor_lt_two_pow hb (by omega)
    rw [BitVec.toNat_xor, e1, e2, IntKind.wrap_u8]
    omega
  rw [e, Int.toNat_natCast]
  intro h2
  have h3 := congrArg UInt8.toNat h2
  have hx : b.toNat ^^^ (1 + d) < 256 := Nat.xor_lt_two_pow (n := 8) b.toNat_lt (by omega)
  rw [UInt8.toNat_ofNat', Nat.mod_eq_of_lt hx] at h3
  have h4 : b.toNat ^^^ (b.toNat ^^^ (1 + d)) = b.toNat ^^^ b.toNat := by rw [h3]
  rw [← Nat.xor_assoc, Nat.xor_self, Nat.zero_xor] at h4
  omega
/-- bytes that no decoder takes -/
def Bad (s : ByteArray) : Prop := s.size ≤ 1000000 ∧ ¬ dV s
theorem Decode_bad_pk (s : ByteArray) (w : World) (h : Bad s) : Calls Tryd.prog 10 #[.string s] w fun e w' => e = .returned (.tuple #[.agg #[.int .i64 0, .int .i64 0, .int .i64 0, .int .i64 0, .int .i64 0, .bool false, .bool false, .int .i64 0, .string ⟨#[]⟩], .int .i64 60]) ∧ Below w.heap.size w w' :=
  Decode_no s w (by have := h.1; omega) (fun q => h.2 q.1)
theorem DecodeHeader_bad_pk (s : ByteArray) (w : World) (h : Bad s) : Calls Tryd.prog 14 #[.string s] w fun e w' => e = .returned (.tuple #[.agg #[.int .i64 0, .int .i64 0, .int .i64 0, .int .i64 0, .int .i64 0, .bool false, .bool false, .int .i64 0, .string ⟨#[]⟩], .int .i64 60]) ∧ Below w.heap.size w w' :=
  DecodeHeader_no s w (by have := h.1; omega) (fun q => h.2 q.1)
theorem extR (l : List UInt8) (a b : Nat) : (⟨l.toArray⟩ : ByteArray).extract a b = ⟨((l.take b).drop a).toArray⟩ := by
  apply ByteArray.ext
  apply Array.ext'
  rw [ByteArray.data_extract]
  simp [List.drop_take]
theorem flip_argI (R : List UInt8) (k : Nat) (hk : k < R.length) (v : UInt8) : ((⟨R.toArray⟩ : ByteArray).extract 0 k ++ ⟨#[v]⟩ ++ (⟨R.toArray⟩ : ByteArray).extract (k + 1) R.length) = ⟨(R.set k v).toArray⟩ := by
  rw [extR, extR]
  have e3 : (⟨#[v]⟩ : ByteArray) = ⟨[v].toArray⟩ := rfl
  rw [e3, ba_append, ba_append, List.set_eq_take_append_cons_drop, if_pos hk]
  simp
/-- all that the laws use of the encoding of a valid datagram -/
theorem rtFacts (p : Pk) (hp : p.ok) : ∃ R : List UInt8, 20 ≤ R.length ∧ R.length ≤ 4020 ∧ Hid (((R.length : Int) != 20 + (p.s.size : Int)) = false) ∧
    Hid (∀ w, Calls Tryd.prog 6 #[.agg #[.int .i64 p.f, .int .i64 p.t, .int .i64 p.pr, .int .i64 p.ttl, .int .i64 p.id, .bool p.df, .bool p.mf, .int .i64 p.off, .string p.s]] w fun e w' => e = .returned (.tuple #[.string ⟨R.toArray⟩, .int .i64 0]) ∧ Below w.heap.size w w') ∧
    Hid (∀ w, Calls Tryd.prog 10 #[.string ⟨R.toArray⟩] w fun e w' => e = .returned (.tuple #[.agg #[.int .i64 p.f, .int .i64 p.t, .int .i64 p.pr, .int .i64 p.ttl, .int .i64 p.id, .bool p.df, .bool p.mf, .int .i64 p.off, .string p.s], .int .i64 0]) ∧ Below w.heap.size w w') ∧
    Hid (∀ (v : UInt8) (k : Nat) (hk : k < R.length), k < 20 → v ≠ R[k] → Bad ((⟨R.toArray⟩ : ByteArray).extract 0 k ++ ⟨#[v]⟩ ++ (⟨R.toArray⟩ : ByteArray).extract (k + 1) R.length)) ∧
    Hid (∀ j : Nat, j ≤ p.s.size → ∀ w, Calls Tryd.prog 14 #[.string ((⟨R.toArray⟩ : ByteArray).extract 0 (20 + j))] w fun e w' => e = .returned (.tuple #[.agg #[.int .i64 p.f, .int .i64 p.t, .int .i64 p.pr, .int .i64 p.ttl, .int .i64 p.id, .bool p.df, .bool p.mf, .int .i64 p.off, .string (p.s.extract 0 j)], .int .i64 0]) ∧ Below w.heap.size w w') ∧
    Hid (∀ k : Nat, k < 20 → Bad ((⟨R.toArray⟩ : ByteArray).extract 0 k)) ∧ Hid (R = encP p) := by
  have hl := encP_length p
  have hs : p.s.size ≤ 4000 := by have := hp; unfold Pk.ok VLen at this; omega
  refine ⟨encP p, by omega, by omega, Lib.hid (by rw [bne_eq_false_iff_eq, hl]; omega), Lib.hid fun w => Encode_pk p w hp, Lib.hid fun w => ?_, Lib.hid fun v k hk hk2 hv => ?_, Lib.hid fun j hj w => ?_, Lib.hid fun k hk => ?_, Lib.hid rfl⟩
  · have := Decode_ok ⟨(encP p).toArray⟩ w (by rw [sz]; omega) (enc_dcOk p hp)
    rwa [enc_pkOf p hp] at this
  · rw [flip_argI _ _ hk]
    refine ⟨by rw [sz, List.length_set]; omega, flip_no (encP p) (enc_dcOk p hp).1 k hk2 (by omega) v hv⟩
  · have h := DecodeHeader_ok ⟨((encP p).take (20 + j)).toArray⟩ w (by rw [sz, List.length_take]; omega) (cut_dhOk p hp (20 + j) (by omega))
    rw [cut_pkOf p hp (20 + j) (by omega)] at h
    rw [ext0]
    have e : p.s.extract 0 j = ⟨(p.s.data.toList.take (20 + j - 20)).toArray⟩ := by
      rw [ba_self p.s, ext0, show 20 + j - 20 = j from by omega]
    rw [e]; exact h
  · have : ((⟨(encP p).toArray⟩ : ByteArray).extract 0 k).size ≤ k := by rw [ByteArray.size_extract]; omega
    exact ⟨by omega, short_no _ (by omega)⟩
theorem rt_same (p q : Pk) (hp : p.ok) (hq : q.ok) {R R2 : List UInt8} (h : R = encP p) (h2 : R2 = encP q) :
    (pkEqB p p = true) ∧ ((pkEqB p q = false ∧ (R == R2) = false) ∨ (pkEqB p q = true ∧ (R == R2) = true)) := by
  subst h; subst h2
  refine ⟨(pkEqB_iff p p).2 rfl, ?_⟩
  by_cases e : p = q
  · subst e; exact .inr ⟨(pkEqB_iff p p).2 rfl, by simp⟩
  · refine .inl ⟨?_, ?_⟩
    · cases h : pkEqB p q
      · rfl
      · exact absurd ((pkEqB_iff p q).1 h) e
    · rw [beq_eq_false_iff_ne]; exact fun h => e (enc_injP p q hp hq h)
end Go.Proofs.YtpiohahfdekmhaaDoor.Ip
