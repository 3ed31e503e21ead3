/-
  CRC-32 as plain data: a register of 32 bits; two strings that differ in one byte have different sums.
-/
import Derived.Test.YtpiohahfdekmhaaDoorBase1
namespace Go.Proofs.YtpiohahfdekmhaaDoor.Lk
set_option maxRecDepth 100000
open Go.RowKit Go.Proofs.YtpiohahfdekmhaaDoor.Wire

/-- the register behind one bit -/
def crcBit (r : Nat) : Nat := if r % 2 = 1 then r / 2 ^^^ 3988292384 else r / 2
def crcBits : Nat → Nat → Nat
  | 0, r => r
  | k + 1, r => crcBit (crcBits k r)
/-- the register behind one byte -/
def crcFeed (r : Nat) (b : UInt8) : Nat := crcBits 8 (r ^^^ b.toNat)
def crcReg (l : List UInt8) : Nat := l.foldl crcFeed 4294967295
def crc (l : List UInt8) : Nat := 4294967295 - crcReg l

theorem crcBit_lt (r : Nat) (h : r < 4294967296) : crcBit r < 4294967296 := by
  unfold crcBit
  split
  · exact Nat.xor_lt_two_pow (n := 32) (by omega) (by omega)
  · omega
theorem crcBits_lt (k r : Nat) (h : r < 4294967296) : crcBits k r < 4294967296 := by
  induction k with
  | zero => exact h
  | succ k ih => exact crcBit_lt _ ih
theorem crcIn_lt (r : Nat) (b : UInt8) (h : r < 4294967296) : r ^^^ b.toNat < 4294967296 := by
  have := b.toNat_lt
  exact Nat.xor_lt_two_pow (n := 32) (by omega) (by omega)
theorem crcFeed_lt (r : Nat) (b : UInt8) (h : r < 4294967296) : crcFeed r b < 4294967296 := crcBits_lt 8 _ (crcIn_lt r b h)
theorem foldl_lt (l : List UInt8) (r : Nat) (h : r < 4294967296) : l.foldl crcFeed r < 4294967296 := by
  induction l generalizing r with
  | nil => exact h
  | cons b l ih => exact ih _ (crcFeed_lt r b h)
theorem crcReg_lt (l : List UInt8) : crcReg l < 4294967296 := foldl_lt l _ (by omega)
theorem crc_lt (l : List UInt8) : crc l < 4294967296 := by unfold crc; omega
theorem xor_cancel (a b c : Nat) (h : a ^^^ c = b ^^^ c) : a = b := by
  have := congrArg (· ^^^ c) h
  simpa [Nat.xor_assoc] using this
theorem top_bit (r : Nat) (h : r < 4294967296) : (crcBit r).testBit 31 = decide (r % 2 = 1) := by
  have h2 : (r / 2).testBit 31 = false := Nat.testBit_lt_two_pow (by omega)
  unfold crcBit
  split
  · rename_i c
    rw [Nat.testBit_xor, h2, show (3988292384 : Nat).testBit 31 = true from by decide]
    simp [c]
  · rename_i c
    rw [h2]
    simp [c]
theorem crcBit_inj (r s : Nat) (hr : r < 4294967296) (hs : s < 4294967296) (h : crcBit r = crcBit s) : r = s := by
  have h1 := top_bit r hr
  have h2 := top_bit s hs
  rw [h] at h1
  have h3 : (r % 2 = 1) ↔ (s % 2 = 1) := decide_eq_decide.1 (h1.symm.trans h2)
  unfold crcBit at h
  by_cases c : r % 2 = 1
  · have c' := h3.1 c
    rw [if_pos c, if_pos c'] at h
    have := xor_cancel _ _ _ h
    omega
  · have c' : ¬ s % 2 = 1 := fun q => c (h3.2 q)
    rw [if_neg c, if_neg c'] at h
    omega
theorem crcBits_inj (k r s : Nat) (hr : r < 4294967296) (hs : s < 4294967296) (h : crcBits k r = crcBits k s) : r = s := by
  induction k with
  | zero => exact h
  | succ k ih => exact ih (crcBit_inj _ _ (crcBits_lt k r hr) (crcBits_lt k s hs) h)
theorem crcFeed_reg (r s : Nat) (b : UInt8) (hr : r < 4294967296) (hs : s < 4294967296) (h : crcFeed r b = crcFeed s b) : r = s :=
  xor_cancel _ _ _ (crcBits_inj 8 _ _ (crcIn_lt r b hr) (crcIn_lt s b hs) h)
theorem crcFeed_byte (r : Nat) (b c : UInt8) (hr : r < 4294967296) (h : crcFeed r b = crcFeed r c) : b = c := by
  have := crcBits_inj 8 _ _ (crcIn_lt r b hr) (crcIn_lt r c hr) h
  rw [Nat.xor_comm r, Nat.xor_comm r] at this
  exact UInt8.toNat_inj.1 (xor_cancel _ _ _ this)
theorem foldl_inj (l : List UInt8) (r s : Nat) (hr : r < 4294967296) (hs : s < 4294967296) (h : l.foldl crcFeed r = l.foldl crcFeed s) : r = s := by
  induction l generalizing r s with
  | nil => exact h
  | cons b l ih => exact crcFeed_reg _ _ b hr hs (ih _ _ (crcFeed_lt r b hr) (crcFeed_lt s b hs) h)
/-- one byte's change is seen -/
theorem crc_diff (p q : List UInt8) (b c : UInt8) (hne : b ≠ c) : crc (p ++ b :: q) ≠ crc (p ++ c :: q) := by
  intro h
  have h1 := crcReg_lt (p ++ b :: q)
  have h2 := crcReg_lt (p ++ c :: q)
  have h3 : crcReg (p ++ b :: q) = crcReg (p ++ c :: q) := by unfold crc at h; omega
  unfold crcReg at h3
  rw [List.foldl_append, List.foldl_append, List.foldl_cons, List.foldl_cons] at h3
  exact hne (crcFeed_byte _ b c (crcReg_lt p) (foldl_inj q _ _ (crcFeed_lt _ b (crcReg_lt p)) (crcFeed_lt _ c (crcReg_lt p)) h3))
theorem crcReg_snoc (l : List UInt8) (b : UInt8) : crcReg (l ++ [b]) = crcFeed (crcReg l) b := by simp [crcReg]
theorem set_split (l : List UInt8) (k : Nat) (v : UInt8) (hk : k < l.length) : l.set k v = l.take k ++ v :: l.drop (k + 1) := by
  rw [List.set_eq_take_append_cons_drop, if_pos hk]
theorem crc_set (l : List UInt8) (k : Nat) (v : UInt8) (hk : k < l.length) (hv : v ≠ l[k]) : crc (l.set k v) ≠ crc l := by
  have e : l = l.take k ++ l[k] :: l.drop (k + 1) := by
    have := set_split l k l[k] hk
    rwa [List.set_getElem_self] at this
  rw [set_split l k v hk]
  intro h
  refine crc_diff (l.take k) (l.drop (k + 1)) v l[k] hv (h.trans ?_)
  rw [← e]

theorem ofInt_toNat32 (x : Nat) (hx : x < 2 ^ 32) : (BitVec.ofInt 32 (x : Int)).toNat = x := by
  rw [BitVec.toNat_ofInt]; omega
theorem wrap_u32 (n : Int) (h0 : 0 ≤ n) (h1 : n < 4294967296) : IntKind.u32.wrap n = n := by
  unfold IntKind.wrap
  simp [IntKind.bits, IntKind.signed]
  omega
theorem bits_xor32 (x y : Nat) (hx : x < 2 ^ 32) (hy : y < 2 ^ 32) : bits .xor .u32 (x : Int) (y : Int) = ((x ^^^ y : Nat) : Int) := by
  unfold bits
  show IntKind.u32.wrap ((BitVec.ofInt 32 (x : Int) ^^^ BitVec.ofInt 32 (y : Int)).toNat : Int) = _
  rw [BitVec.toNat_xor, ofInt_toNat32 x hx, ofInt_toNat32 y hy]
  have := Nat.xor_lt_two_pow hx hy
  exact wrap_u32 _ (by omega) (by omega)
theorem bits_and32 (x : Nat) (hx : x < 2 ^ 32) : bits .and .u32 (x : Int) 1 = ((x % 2 : Nat) : Int) := by
  unfold bits
  show IntKind.u32.wrap ((BitVec.ofInt 32 (x : Int) &&& BitVec.ofInt 32 ((1 : Nat) : Int)).toNat : Int) = _
  rw [BitVec.toNat_and, ofInt_toNat32 x hx, ofInt_toNat32 1 (by omega), Nat.and_one_is_mod]
  exact wrap_u32 _ (by omega) (by omega)
end Go.Proofs.YtpiohahfdekmhaaDoor.Lk
