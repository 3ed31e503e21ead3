/-
  What the laws use of frames: the encoding is decoded, one byte away from it nothing is.
-/
import Derived.Test.YtpiohahfdekmhaaDoorLkDec
namespace Go.Proofs.YtpiohahfdekmhaaDoor.Lk
set_option maxRecDepth 100000
open Go.RowKit Go.Proofs.YtpiohahfdekmhaaDoor.Wire

theorem Gl.pos {W : World} {a0 : Addr} (h : Gl W a0) : 1 ≤ W.heap.size := by
  unfold Gl at h
  rcases Nat.lt_or_ge 0 W.heap.size with c | c
  · omega
  · simp [World.cell?, Array.getElem?_eq_none c] at h
theorem encode_fr (dst fm kd : Int) (R : List UInt8) (w : World) (a0 : Addr) (hg : Gl w a0) (h : FrOk dst fm kd R.length) :
    Calls Tryd.prog 8 #[.agg #[.int .i64 dst, .int .i64 fm, .int .i64 kd, .string ⟨R.toArray⟩]] w fun e w' => e = .returned (.tuple #[.string ⟨(fenc dst fm kd R).toArray⟩, .int .i64 0]) ∧ Below w.heap.size w w' :=
  encode_ok dst fm kd ⟨R.toArray⟩ w a0 hg h
theorem decode_fr (dst fm kd : Int) (R : List UInt8) (w : World) (a0 : Addr) (hg : Gl w a0) (h : FrOk dst fm kd R.length) :
    Calls Tryd.prog 9 #[.string ⟨(fenc dst fm kd R).toArray⟩] w fun e w' => e = .returned (.tuple #[.agg #[.int .i64 dst, .int .i64 fm, .int .i64 kd, .string ⟨R.toArray⟩], .int .i64 0]) ∧ Below w.heap.size w w' := by
  have hl := fenc_length dst fm kd R
  have hR : R.length ≤ 1024 := by unfold FrOk at h; omega
  refine (decode_any ⟨(fenc dst fm kd R).toArray⟩ (by rw [sz]; omega) (by rw [sz]; omega) a0 w hg hg.pos).mono ?_
  rintro e w' ⟨hb, ⟨-, rfl⟩ | ⟨hn, -⟩⟩
  · refine ⟨?_, hb⟩
    obtain ⟨e1, e2, e3, e4, -, -, e7⟩ := fenc_fields dst fm kd R h
    have : dcVal (fenc dst fm kd R) = .agg #[.int .i64 dst, .int .i64 fm, .int .i64 kd, .string ⟨R.toArray⟩] := by
      unfold dcVal fval
      rw [e1, e2, e3, e4]
      show Value.agg #[_, _, _, .string ⟨((List.drop 7 (fenc dst fm kd R)).take ((R.length : Int)).toNat).toArray⟩] = _
      rw [Int.toNat_natCast, e7]; rfl
    show Ending.returned (.tuple #[dcVal (fenc dst fm kd R), .int .i64 0]) = _
    rw [this]
  · exact absurd (fenc_dk dst fm kd R h) hn
theorem decode_flip (dst fm kd : Int) (R : List UInt8) (k : Nat) (v : UInt8) (w : World) (a0 : Addr) (hg : Gl w a0) (h : FrOk dst fm kd R.length) (hk : k < (fenc dst fm kd R).length) (hv : v ≠ (fenc dst fm kd R)[k]) :
    Calls Tryd.prog 9 #[.string ⟨((fenc dst fm kd R).set k v).toArray⟩] w fun e w' => e = .returned (.tuple #[.agg #[.int .i64 0, .int .i64 0, .int .i64 0, .string ⟨#[]⟩], .int .i64 40]) ∧ Below w.heap.size w w' := by
  have hl := fenc_length dst fm kd R
  have hR : R.length ≤ 1024 := by unfold FrOk at h; omega
  refine (decode_any ⟨((fenc dst fm kd R).set k v).toArray⟩ (by rw [sz, List.length_set]; omega) (by rw [sz, List.length_set]; omega) a0 w hg hg.pos).mono ?_
  rintro e w' ⟨hb, ⟨hd, -⟩ | ⟨-, rfl⟩⟩
  · exact absurd hd (dk_flip _ (fenc_dk dst fm kd R h) k v hk hv)
  · exact ⟨rfl, hb⟩
theorem xor_away (b : UInt8) (m : Nat) (h0 : 1 ≤ m) (h : m ≤ 255) : UInt8.ofNat (bits .xor .u8 (b.toNat : Int) (m : Int)).toNat ≠ b := by
  have hb := b.toNat_lt
  have hx : b.toNat ^^^ m < 2 ^ 8 := Nat.xor_lt_two_pow hb (by omega)
  have e : bits .xor .u8 (b.toNat : Int) (m : Int) = ((b.toNat ^^^ m : Nat) : Int) := by
    unfold bits
    show IntKind.u8.wrap ((BitVec.ofInt 8 (b.toNat : Int) ^^^ BitVec.ofInt 8 (m : Int)).toNat : Int) = _
    have e1 : (BitVec.ofInt 8 (b.toNat : Int)).toNat = b.toNat := by rw [BitVec.toNat_ofInt]; omega
    have e2 : (BitVec.ofInt 8 (m : Int)).toNat = m := by rw [BitVec.toNat_ofInt]; omega
    rw [BitVec.toNat_xor, e1, e2, IntKind.wrap_u8]
    omega
  rw [e, Int.toNat_natCast]
  intro h2
  have h3 := congrArg UInt8.toNat h2
  rw [UInt8.toNat_ofNat', Nat.mod_eq_of_lt hx] at h3
  have h4 : b.toNat ^^^ (b.toNat ^^^ m) = b.toNat ^^^ b.toNat := by rw [h3]
  rw [← Nat.xor_assoc, Nat.xor_self, Nat.zero_xor] at h4
  omega
end Go.Proofs.YtpiohahfdekmhaaDoor.Lk
