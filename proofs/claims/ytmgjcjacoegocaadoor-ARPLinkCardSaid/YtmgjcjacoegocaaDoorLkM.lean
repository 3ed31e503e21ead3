/-
  Frames: CRC-32, encode, decode (several texts in one).
-/
import Derived.Test.YtmgjcjacoegocaaDoorBase1
import Derived.Test.YtmgjcjacoegocaaDoorPlain
import Derived.Test.YtmgjcjacoegocaaDoorRows
import Derived.WalkKit
import Derived.LaidEql
import Derived.Stop.Asserts
import Derived.Test.YtmgjcjacoegocaaDoorBase2
import Derived.Deep.RegionHeld3
import Derived.Deep.QuietTactic
import Derived.Test.YtmgjcjacoegocaaDoorGetI
import Derived.Test.YtmgjcjacoegocaaDoorRange
import Derived.OwnWalkIn
import Derived.TacticsInMore
import Derived.LoopNIn
import Derived.LoopIn
import Derived.Shelf.Abstract
import Derived.Shelf.RegionOpen
import Derived.Stop.RegionWithIn
import Derived.WalkMore
import Derived.Deep.DeepCutAuto
import Derived.Outline
namespace Go.Proofs.YtmgjcjacoegocaaDoor.Lk
set_option maxRecDepth 100000
open Go.RowKit Go.Proofs.YtmgjcjacoegocaaDoor.Wire

/-- the register behind one bit -/
def crcBit (r : Nat) : Nat := if r % 2 = 1 then r / 2 ^^^ 3988292384 else r / 2
def crcBits : Nat → Nat → Nat
  | 0, r => r
  | k + 1, r => crcBit (crcBits k r)
/-- the register behind one byte -/
def crcFeed (r : Nat) (b : UInt8) : Nat := crcBits 8 (r ^^^ b.toNat)
def crcReg (l : List UInt8) : Nat := l.foldl crcFeed 4294967295
def crc (l : List UInt8) : Nat := 4294967295 - crcReg l

theorem crcBit_lt (r : Nat) (h : r < 4294967296) : crcBit r < 4294967296 := by
  unfold crcBit
  split
  · exact Nat.xor_lt_two_pow (n := 32) (by omega) (by omega)
  · omega
theorem crcBits_lt (k r : Nat) (h : r < 4294967296) : crcBits k r < 4294967296 := by
  induction k with
  | zero => exact h
  | succ k ih => exact crcBit_lt _ ih
theorem crcIn_lt (r : Nat) (b : UInt8) (h : r < 4294967296) : r ^^^ b.toNat < 4294967296 := by
  have := b.toNat_lt
  exact Nat.xor_lt_two_pow (n := 32) (by omega) (by omega)
theorem crcFeed_lt (r : Nat) (b : UInt8) (h : r < 4294967296) : crcFeed r b < 4294967296 := crcBits_lt 8 _ (crcIn_lt r b h)
theorem foldl_lt (l : List UInt8) (r : Nat) (h : r < 4294967296) : l.foldl crcFeed r < 4294967296 := by
  induction l generalizing r with
  | nil => exact h
  | cons b l ih => exact ih _ (crcFeed_lt r b h)
theorem crcReg_lt (l : List UInt8) : crcReg l < 4294967296 := foldl_lt l _ (by omega)
theorem crc_lt (l : List UInt8) : crc l < 4294967296 := by unfold crc; omega
theorem xor_cancel (a b c : Nat) (h : a ^^^ c = b ^^^ c) : a = b := by
  have := congrArg (· ^^^ c) h
  simpa [Nat.xor_assoc] using this
theorem top_bit (r : Nat) (h : r < 4294967296) : (crcBit r).testBit 31 = decide (r % 2 = 1) := by
  have h2 : (r / 2).testBit 31 = false := Nat.testBit_lt_two_pow (by omega)
  unfold crcBit
  split
  · rename_i c
    rw [Nat.testBit_xor, h2, show (3988292384 : Nat).testBit 31 = true from by decide]
    simp [c]
  · rename_i c
    rw [h2]
    simp [c]
theorem crcBit_inj (r s : Nat) (hr : r < 4294967296) (hs : s < 4294967296) (h : crcBit r = crcBit s) : r = s := by
  have h1 := top_bit r hr
  have h2 := top_bit s hs
  rw [h] at h1
  have h3 : (r % 2 = 1) ↔ (s % 2 = 1) := decide_eq_decide.1 (h1.symm.trans h2)
  unfold crcBit at h
  by_cases c : r % 2 = 1
  · have c' := h3.1 c
    rw [if_pos c, if_pos c'] at h
    have := xor_cancel _ _ _ h
    omega
  · have c' : ¬ s % 2 = 1 := fun q => c (h3.2 q)
    rw [if_neg c, if_neg c'] at h
    omega
theorem crcBits_inj (k r s : Nat) (hr : r < 4294967296) (hs : s < 4294967296) (h : crcBits k r = crcBits k s) : r = s := by
  induction k with
  | zero => exact h
  | succ k ih => exact ih (crcBit_inj _ _ (crcBits_lt k r hr) (crcBits_lt k s hs) h)
theorem crcFeed_reg (r s : Nat) (b : UInt8) (hr : r < 4294967296) (hs : s < 4294967296) (h : crcFeed r b = crcFeed s b) : r = s :=
  xor_cancel _ _ _ (crcBits_inj 8 _ _ (crcIn_lt r b hr) (crcIn_lt s b hs) h)
theorem crcFeed_byte (r : Nat) (b c : UInt8) (hr : r < 4294967296) (h : crcFeed r b = crcFeed r c) : b = c := by
  have := crcBits_inj 8 _ _ (crcIn_lt r b hr) (crcIn_lt r c hr) h
  rw [Nat.xor_comm r, Nat.xor_comm r] at this
  exact UInt8.toNat_inj.1 (xor_cancel _ _ _ this)
theorem foldl_inj (l : List UInt8) (r s : Nat) (hr : r < 4294967296) (hs : s < 4294967296) (h : l.foldl crcFeed r = l.foldl crcFeed s) : r = s := by
  induction l generalizing r s with
  | nil => exact h
  | cons b l ih => exact crcFeed_reg _ _ b hr hs (ih _ _ (crcFeed_lt r b hr) (crcFeed_lt s b hs) h)
/-- one byte's change is seen -/
theorem crc_diff (p q : List UInt8) (b c : UInt8) (hne : b ≠ c) : crc (p ++ b :: q) ≠ crc (p ++ c :: q) := by
  intro h
  have h1 := crcReg_lt (p ++ b :: q)
  have h2 := crcReg_lt (p ++ c :: q)
  have h3 : crcReg (p ++ b :: q) = crcReg (p ++ c :: q) := by unfold crc at h; omega
  unfold crcReg at h3
  rw [List.foldl_append, List.foldl_append, List.foldl_cons, List.foldl_cons] at h3
  exact hne (crcFeed_byte _ b c (crcReg_lt p) (foldl_inj q _ _ (crcFeed_lt _ b (crcReg_lt p)) (crcFeed_lt _ c (crcReg_lt p)) h3))
theorem crcReg_snoc (l : List UInt8) (b : UInt8) : crcReg (l ++ [b]) = crcFeed (crcReg l) b := by simp [crcReg]
theorem set_split (l : List UInt8) (k : Nat) (v : UInt8) (hk : k < l.length) : l.set k v = l.take k ++ v :: l.drop (k + 1) := by
  rw [List.set_eq_take_append_cons_drop, if_pos hk]
theorem crc_set (l : List UInt8) (k : Nat) (v : UInt8) (hk : k < l.length) (hv : v ≠ l[k]) : crc (l.set k v) ≠ crc l := by
  have e : l = l.take k ++ l[k] :: l.drop (k + 1) := by
    have := set_split l k l[k] hk
    rwa [List.set_getElem_self] at this
  rw [set_split l k v hk]
  intro h
  refine crc_diff (l.take k) (l.drop (k + 1)) v l[k] hv (h.trans ?_)
  rw [← e]

theorem ofInt_toNat32 (x : Nat) (hx : x < 2 ^ 32) : (BitVec.ofInt 32 (x : Int)).toNat = x := by
  rw [BitVec.toNat_ofInt]; omega
theorem wrap_u32 (n : Int) (h0 : 0 ≤ n) (h1 : n < 4294967296) : IntKind.u32.wrap n = n := by
  unfold IntKind.wrap
  simp [IntKind.bits, IntKind.signed]
  omega
theorem bits_xor32 (x y : Nat) (hx : x < 2 ^ 32) (hy : y < 2 ^ 32) : bits .xor .u32 (x : Int) (y : Int) = ((x ^^^ y : Nat) : Int) := by
  unfold bits
  show IntKind.u32.wrap ((BitVec.ofInt 32 (x : Int) ^^^ BitVec.ofInt 32 (y : Int)).toNat : Int) = _
  rw [BitVec.toNat_xor, ofInt_toNat32 x hx, ofInt_toNat32 y hy]
  have := Nat.xor_lt_two_pow hx hy
  exact wrap_u32 _ (by omega) (by omega)
theorem bits_and32 (x : Nat) (hx : x < 2 ^ 32) : bits .and .u32 (x : Int) 1 = ((x % 2 : Nat) : Int) := by
  unfold bits
  show IntKind.u32.wrap ((BitVec.ofInt 32 (x : Int) &&& BitVec.ofInt 32 ((1 : Nat) : Int)).toNat : Int) = _
  rw [BitVec.toNat_and, ofInt_toNat32 x hx, ofInt_toNat32 1 (by omega), Nat.and_one_is_mod]
  exact wrap_u32 _ (by omega) (by omega)
end Go.Proofs.YtmgjcjacoegocaaDoor.Lk

namespace Go.Proofs.YtmgjcjacoegocaaDoor.Lk
set_option maxRecDepth 100000
open Go.RowKit Go.Proofs.YtmgjcjacoegocaaDoor.Wire

def FrOk (to_ fm kd n : Int) : Prop := (1 ≤ to_ ∧ to_ ≤ 65535) ∧ (1 ≤ fm ∧ fm ≤ 65534) ∧ (kd = 1 ∨ kd = 2) ∧ n ≤ 1024
instance (to_ fm kd n : Int) : Decidable (FrOk to_ fm kd n) := by unfold FrOk; infer_instance
def frOkB (to_ fm kd n : Int) : Bool := decide (FrOk to_ fm kd n)
def fhead (to_ fm kd n : Int) : List UInt8 := be 2 to_ ++ (be 2 fm ++ (be 1 kd ++ be 2 n))
theorem fhead_length (to_ fm kd n : Int) : (fhead to_ fm kd n).length = 7 := by simp [fhead, be_length]
def fbody (to_ fm kd : Int) (s : List UInt8) : List UInt8 := fhead to_ fm kd s.length ++ s
/-- the encoding of a frame -/
def fenc (to_ fm kd : Int) (s : List UInt8) : List UInt8 := fbody to_ fm kd s ++ be 4 (crc (fbody to_ fm kd s))
theorem fbody_length (to_ fm kd : Int) (s : List UInt8) : (fbody to_ fm kd s).length = 7 + s.length := by simp [fbody, fhead_length]
theorem fenc_length (to_ fm kd : Int) (s : List UInt8) : (fenc to_ fm kd s).length = 11 + s.length := by
  unfold fenc; rw [List.length_append, fbody_length, be_length]; omega
/-- the number in n bytes from a on -/
def nm (l : List UInt8) (a n : Nat) : Int := num ((l.drop a).take n)
theorem nm_bd (l : List UInt8) (a n : Nat) : 0 ≤ nm l a n ∧ nm l a n < 256 ^ n := by
  have h := num_bd ((l.drop a).take n)
  have h2 : ((l.drop a).take n).length ≤ n := List.length_take_le _ _
  have h3 : (256 : Int) ^ ((l.drop a).take n).length ≤ 256 ^ n := by
    have := Nat.pow_le_pow_right (n := 256) (by omega) h2
    have e : ∀ k : Nat, (256 : Int) ^ k = ((256 ^ k : Nat) : Int) := fun k => by simp
    rw [e, e]; omega
  unfold nm; omega
/-- the string is the encoding of a valid frame -/
def Dk (l : List UInt8) : Prop := (l.length : Int) = 11 + nm l 5 2 ∧ FrOk (nm l 0 2) (nm l 2 2) (nm l 4 1) (nm l 5 2) ∧ nm l (l.length - 4) 4 = (crc (l.take (l.length - 4)) : Int)
theorem nm_skip (p l : List UInt8) (a n : Nat) (h : p.length ≤ a) : nm (p ++ l) a n = nm l (a - p.length) n := by
  unfold nm
  rw [List.drop_append, List.drop_eq_nil_of_le h, List.nil_append]
theorem nm_here (k : Nat) (n : Int) (l : List UInt8) (h0 : 0 ≤ n) (h1 : n < 256 ^ k) : nm (be k n ++ l) 0 k = n := by
  unfold nm
  rw [List.drop_zero, List.take_append_of_le_length (by rw [be_length]; exact Nat.le_refl _), List.take_of_length_le (by rw [be_length]; exact Nat.le_refl _)]
  exact num_be k n h0 h1
theorem fenc_shape (to_ fm kd : Int) (s : List UInt8) : fenc to_ fm kd s = be 2 to_ ++ (be 2 fm ++ (be 1 kd ++ (be 2 (s.length : Int) ++ (s ++ be 4 (crc (fbody to_ fm kd s)))))) := by
  unfold fenc
  conv => lhs; arg 1; unfold fbody fhead
  simp [List.append_assoc]
theorem fenc_fields (to_ fm kd : Int) (s : List UInt8) (h : FrOk to_ fm kd s.length) :
    nm (fenc to_ fm kd s) 0 2 = to_ ∧ nm (fenc to_ fm kd s) 2 2 = fm ∧ nm (fenc to_ fm kd s) 4 1 = kd ∧ nm (fenc to_ fm kd s) 5 2 = s.length ∧
    nm (fenc to_ fm kd s) (7 + s.length) 4 = crc (fbody to_ fm kd s) ∧ (fenc to_ fm kd s).take (7 + s.length) = fbody to_ fm kd s ∧ ((fenc to_ fm kd s).drop 7).take s.length = s := by
  obtain ⟨⟨h1, h2⟩, ⟨h3, h4⟩, h5, h6⟩ := h
  have hc := crc_lt (fbody to_ fm kd s)
  have hl := fbody_length to_ fm kd s
  refine ⟨?_, ?_, ?_, ?_, ?_, ?_, ?_⟩
  · rw [fenc_shape]; exact nm_here 2 to_ _ (by omega) (by omega)
  · rw [fenc_shape, nm_skip _ _ _ _ (by rw [be_length]; omega), be_length]; exact nm_here 2 fm _ (by omega) (by omega)
  · rw [fenc_shape, nm_skip _ _ _ _ (by rw [be_length]; omega), nm_skip _ _ _ _ (by rw [be_length, be_length]; omega), be_length, be_length]; exact nm_here 1 kd _ (by omega) (by omega)
  · rw [fenc_shape, nm_skip _ _ _ _ (by rw [be_length]; omega), nm_skip _ _ _ _ (by rw [be_length, be_length]; omega), nm_skip _ _ _ _ (by rw [be_length, be_length, be_length]; omega), be_length, be_length, be_length]
    exact nm_here 2 _ _ (by omega) (by omega)
  · unfold fenc
    rw [nm_skip _ _ _ _ (by omega), hl, show 7 + s.length - (7 + s.length) = 0 from by omega, ← List.append_nil (be 4 _)]
    exact nm_here 4 _ _ (by omega) (by omega)
  · unfold fenc
    rw [List.take_append_of_le_length (by omega), List.take_of_length_le (by omega)]
  · unfold fenc
    rw [List.drop_append_of_le_length (by omega)]
    unfold fbody
    rw [List.drop_append, List.drop_eq_nil_of_le (by rw [fhead_length]; omega), List.nil_append, fhead_length, List.drop_zero, List.take_append_of_le_length (by omega), List.take_of_length_le (by omega)]
theorem fenc_dk (to_ fm kd : Int) (s : List UInt8) (h : FrOk to_ fm kd s.length) : Dk (fenc to_ fm kd s) := by
  obtain ⟨e1, e2, e3, e4, e5, e6, -⟩ := fenc_fields to_ fm kd s h
  have hl := fenc_length to_ fm kd s
  have h4 : (fenc to_ fm kd s).length - 4 = 7 + s.length := by omega
  unfold Dk
  rw [e1, e2, e3, e4, h4, e5, e6]
  exact ⟨by omega, h, rfl⟩
theorem num_inj (l m : List UInt8) (hl : l.length = m.length) (h : num l = num m) : l = m := by
  rw [← be_num l, ← be_num m, h, hl]
theorem nm_out (l : List UInt8) (a n k : Nat) (v : UInt8) (h : k < a ∨ a + n ≤ k) : nm (l.set k v) a n = nm l a n := by
  unfold nm
  rw [List.drop_set]
  split
  · rfl
  · rw [List.take_set_of_le (by omega)]
theorem nm_in (l : List UInt8) (a n k : Nat) (v : UInt8) (h : a ≤ k ∧ k < a + n) (hk : k < l.length) (hv : v ≠ l[k]) : nm (l.set k v) a n ≠ nm l a n := by
  unfold nm
  intro e
  have e2 := num_inj _ _ (by simp) e
  have e3 : ∀ m : List UInt8, ((m.drop a).take n)[k - a]? = m[k]? := fun m => by
    rw [List.getElem?_take_of_lt (by omega), List.getElem?_drop]
    congr 1; omega
  have e4 := congrArg (fun m => m[k - a]?) e2
  replace e4 : ((l.set k v).drop a |>.take n)[k - a]? = ((l.drop a).take n)[k - a]? := e4
  rw [e3, e3, List.getElem?_set_self hk, List.getElem?_eq_getElem hk] at e4
  exact hv (Option.some.inj e4)
/-- a string one byte away from an encoding is none -/
theorem dk_flip (l : List UInt8) (h : Dk l) (k : Nat) (v : UInt8) (hk : k < l.length) (hv : v ≠ l[k]) : ¬ Dk (l.set k v) := by
  rintro ⟨g1, -, g3⟩
  obtain ⟨h1, -, h3⟩ := h
  have hb := nm_bd l 5 2
  rw [List.length_set] at g1 g3
  by_cases c : 5 ≤ k ∧ k < 7
  · exact nm_in l 5 2 k v (by omega) hk hv (by omega)
  · by_cases c2 : k < l.length - 4
    · rw [nm_out _ _ _ _ _ (.inl c2), h3, List.take_set] at g3
      have := crc_set (l.take (l.length - 4)) k v (by rw [List.length_take]; omega) (by rw [List.getElem_take]; exact hv)
      omega
    · have := nm_in l (l.length - 4) 4 k v (by omega) hk hv
      rw [List.take_set_of_le (by omega)] at g3
      exact this (g3.trans h3.symm)
end Go.Proofs.YtmgjcjacoegocaaDoor.Lk

namespace Go.Proofs.YtmgjcjacoegocaaDoor.Lk
set_option maxRecDepth 100000
open Go.RowKit Go.Proofs.YtmgjcjacoegocaaDoor.Wire

def errV (a : Addr) : Value := .iface 240 (.pointer (some a))
/-- the error of package link, where it lies -/
def Gl (W : World) (a0 : Addr) : Prop := W.cell? ⟨0, 0, none⟩ = some (errV a0)
theorem Gl.below {W W' : World} {a0 : Addr} (h : Gl W a0) (hb : Below W.heap.size W W') : Gl W' a0 := bcell hb h
theorem is_nil (b : Addr) (w : World) : Calls Tryd.prog 46 #[.nilIface, errV b] w fun e w' => e = .returned (.bool false) ∧ w = w' := by
  have hn := run_eql_iface_nil_left (P := Tryd.prog) w 240 (.pointer (some b)) Tryd.underlying111
  unfold errV
  go_enter Tryd.func46, Tryd.ntmps46
  go_wp2
  go_ret
  exact ⟨rfl, rfl⟩
end Go.Proofs.YtmgjcjacoegocaaDoor.Lk

namespace Go.Proofs.YtmgjcjacoegocaaDoor.Lk
set_option maxRecDepth 100000
open Go.RowKit Go.Proofs.YtmgjcjacoegocaaDoor.Wire

set_option maxHeartbeats 4000000 in
theorem valid_any (to_ fm kd : Int) (s : ByteArray) (w : World) (hs : s.size ≤ 9223372036854775807) :
    Calls Tryd.prog 49 #[.agg #[.int .i64 to_, .int .i64 fm, .int .i64 kd, .string s]] w fun e w' => e = .returned (.bool (frOkB to_ fm kd s.size)) ∧ Below w.heap.size w w' := by
  go_enter Tryd.func49, Tryd.ntmps49
  go_wp2
  all_goals
    go_ret
    refine ⟨ret_bool ?_, (Below.refl _ _).alloc (Nat.le_refl _) _⟩
  all_goals
    (try simp only [beq_iff_eq, beq_eq_false_iff_ne, bne_iff_ne, bne_eq_false_iff_eq, Bool.not_eq_true', Bool.not_eq_false', decide_eq_true_eq, decide_eq_false_iff_not, ne_eq] at *)
    first
      | (refine (decide_eq_false (fun h => ?_)).symm; unfold FrOk at h; omega)
      | (refine (decide_eq_true ?_).symm; unfold FrOk; omega)
      | (refine (decide_eq_true ?_).symm; unfold FrOk; simp; omega)
      | (unfold frOkB; exact decide_eq_decide.2 (by unfold FrOk; omega))
theorem addressed_any (to_ fm kd mac : Int) (s : ByteArray) (w : World) :
    Calls Tryd.prog 19 #[.agg #[.int .i64 to_, .int .i64 fm, .int .i64 kd, .string s], .int .i64 mac] w fun e w' => e = .returned (.bool (decide ((to_ = mac ∨ to_ = 65535) ∧ fm ≠ mac))) ∧ Below w.heap.size w w' := by
  go_enter Tryd.func19, Tryd.ntmps19
  go_wp2
  all_goals
    go_ret
    refine ⟨ret_bool ?_, (Below.refl _ _).alloc (Nat.le_refl _) _⟩
  all_goals
    first
      | (refine (decide_eq_false (fun h => ?_)).symm; omega)
      | (refine (decide_eq_true ?_).symm; omega)
      | (rw [Bool.eq_iff_iff]; simp; omega)
end Go.Proofs.YtmgjcjacoegocaaDoor.Lk

namespace Go.Proofs.YtmgjcjacoegocaaDoor.Lk
set_option maxRecDepth 100000
open Go.RowKit Go.Proofs.YtmgjcjacoegocaaDoor.Wire

/-- numbers, each in so many bytes -/
def pes (l : List (Int × Int)) : List UInt8 := l.flatMap fun x => be x.2.toNat x.1
theorem pes_snoc (l : List (Int × Int)) (x : Int × Int) : pes (l ++ [x]) = pes l ++ be x.2.toNat x.1 := by simp [pes]
theorem pes_len : ∀ (l : List (Int × Int)), (∀ x ∈ l, x.2 ≤ 4) → (pes l).length ≤ 4 * l.length
  | [], _ => by simp [pes]
  | x :: l, h => by
    have := pes_len l (fun y hy => h y (List.mem_cons_of_mem _ hy))
    have h1 := h x (List.mem_cons_self ..)
    have e : pes (x :: l) = be x.2.toNat x.1 ++ pes l := rfl
    rw [e, List.length_append, be_length, List.length_cons]
    omega
def prCells (l : List (Int × Int)) : List Value := l.flatMap fun x => [.int .i64 x.1, .int .i64 x.2]
theorem prCells_get : ∀ (l : List (Int × Int)) (i : Nat) (x : Int × Int), l[i]? = some x → (prCells l)[2 * i]? = some (.int .i64 x.1) ∧ (prCells l)[2 * i + 1]? = some (.int .i64 x.2)
  | [], i, x, h => by simp at h
  | a :: l, 0, x, h => by simp at h; subst h; simp [prCells]
  | a :: l, i + 1, x, h => by
    have := prCells_get l i x (by simpa using h)
    have e : prCells (a :: l) = .int .i64 a.1 :: .int .i64 a.2 :: prCells l := rfl
    rw [e]
    have e1 : 2 * (i + 1) = 2 * i + 1 + 1 := by omega
    rw [e1]
    simpa using this
theorem take_succ_get {l : List (Int × Int)} {k : Nat} {x : Int × Int} (h : l[k]? = some x) : l.take (k + 1) = l.take k ++ [x] := by
  rw [List.take_add_one, h]; rfl

set_option maxHeartbeats 4000000 in
theorem numbers_any (g n m cap : Nat) (ns : List (Int × Int)) (w : World) (hm : m = 2 * n) (hn : ns.length = n) (hn2 : n ≤ 100) (hr : ∀ x ∈ ns, (1 ≤ x.2 ∧ x.2 ≤ 4) ∧ 0 ≤ x.1 ∧ x.1 < 256 ^ x.2.toNat) (hg : w.heap[g]? = some (.cells (prCells ns).toArray 3 (0, 0))) :
    Calls Tryd.prog 74 #[.slice (some ⟨g, 0, none⟩) m cap] w fun e w' => e = .returned (.tuple #[.string ⟨(pes ns).toArray⟩, .nilIface]) ∧ Below w.heap.size w w' := by
  have HG := Lib.hid hg; clear hg
  have HN := Lib.hid hn; clear hn
  have HR := Lib.hid hr; clear hr
  have HM := Lib.hid hm; clear hm
  have hm200 : m ≤ 200 := by have := HM.out; omega
  have hgl := blk_lt HG.out
  go_enter Tryd.func74, Tryd.ntmps74
  go_wp2_with fail
  have HB2 := below_alloc (o := .cells #[.pointer none, .slice none 0 0] 144) (Below.refl w.heap.size w)
  go_loopw [5] (fun i wr => ∃ k : Nat, k ≤ n ∧ i = .int .i64 (2 * (k : Int)) ∧ IsB w.heap.size w.heap.size (pes (ns.take k)) wr ∧ Below w.heap.size w wr) (fun i _ => m - (intOf i).toNat)
  case atStart => exact ⟨0, by omega, rfl, isB_new w, HB2⟩
  case round =>
    clear HB2
    obtain ⟨k, hk, rfl, HI, HB⟩ := hrel
    have HI := Lib.hid HI
    have hlen : (pes (ns.take k)).length ≤ 4000 := by
      have h1 := pes_len (ns.take k) (fun x hx => (HR.out x (List.mem_of_mem_take hx)).1.2)
      have h2 : (ns.take k).length ≤ k := List.length_take_le _ _
      omega
    by_cases hlt : k < n
    · have hkl : k < ns.length := by rw [HN.out]; exact hlt
      have HX : Hid (ns[k]? = some ns[k]) := Lib.hid (List.getElem?_eq_getElem hkl)
      obtain ⟨⟨hb1, hb4⟩, hx0, hx1⟩ := HR.out ns[k] (List.getElem_mem hkl)
      obtain ⟨c0, c1⟩ := prCells_get ns k ns[k] HX.out
      have d0 := (HB.cell (p := ⟨g, 2 * k, none⟩) hgl).trans (cell_of_block HG.out (by simpa using c0)).1
      have d1 := (HB.cell (p := ⟨g, 2 * k + 1, none⟩) hgl).trans (cell_of_block HG.out (by simpa using c1)).1
      clear c0 c1
      generalize ns[k] = x at *
      obtain ⟨x, b⟩ := x
      have HT := Lib.hid (take_succ_get HX.out)
      dsimp only at d0 d1 hb1 hb4 hx0 hx1
      have HX1 := Lib.hid hx1; clear hx1 hkl
      have hkl : decide (2 * (k : Int) + 1 < (m : Int)) = true := by have := HM.out; simp; omega
      have hkm : 2 * (k : Int) + 1 < (m : Int) := by have := HM.out; omega
      have hk0 : (0 : Int) ≤ 2 * (k : Int) := by omega
      have hk1 : (0 : Int) ≤ 2 * (k : Int) + 1 := by omega
      have hk2 : 2 * (k : Int) < (m : Int) := by omega
      have hk3 : (2 * (k : Int)).toNat = 2 * k := by omega
      have hk4 : (2 * (k : Int) + 1).toNat = 2 * k + 1 := by omega
      have hk5 : IntKind.i64.wrap (2 * (k : Int) + 1) = 2 * (k : Int) + 1 := IntWalk.i64_in _ (by omega)
      generalize ns.take k = L at *
      go_wp2_with fail
      go_region_held3 (fun w' => w'.cell? ⟨g, 2 * k, none⟩ = some (.int .i64 x) ∧ w'.cell? ⟨g, 2 * k + 1, none⟩ = some (.int .i64 b)) (first | exact ⟨d0, d1⟩ | (go_split_ands; exact ⟨bcell hb d0, bcell hb d1⟩))
        ((go_at_call 70; refine (put_okI x b _ hb1 hb4 hx0 HX1.out).mono ?_; rintro e w3 ⟨rfl, hb⟩))
      have hb : Below wr.heap.size wr w3 := ⟨hb.os, hb.tape, hb.output, hb.size, hb.block⟩
      have HI' := isB_below HI.out hb; have HB' := below_call HB hb; clear HI HB hb d0 d1
      have HI := Lib.hid HI'; clear HI'
      go_wp2_with fail
      have hbl := be_length b.toNat x
      refine (bwrite_any _ _ (pes L) _ _ HI.out (by rw [sz, hbl]; omega)).mono ?_
      rintro e w4 ⟨rfl, HJ, hb⟩
      have HJ := Lib.hid HJ; have HB := HB'.trans hb; clear HB' hb HI hbl
      go_wp2_with fail
      go_roundw
      case rel => exact ⟨k + 1, by omega, by go_num, by rw [HT.out, pes_snoc]; exact HJ.out, HB⟩
      case measure => have := HM.out; simp [intOf]; omega
    · have hkn : k = n := by omega
      have HF : Hid (ns.take k = ns) := Lib.hid (List.take_of_length_le (by rw [HN.out]; omega))
      generalize ns.take k = L at *
      have hkl : decide (2 * (k : Int) + 1 < (m : Int)) = false := by have := HM.out; simp; omega
      have hkm : ¬ (2 * (k : Int) + 1 < (m : Int)) := by have := HM.out; omega
      go_wp2_with fail
      refine (bstring_any _ _ (pes L) _ HI.out).mono ?_
      rintro e w3 ⟨rfl, hb⟩
      go_wp2_with fail
      go_ret2
      exact ⟨by rw [HF.out]; rfl, HB.trans hb⟩
end Go.Proofs.YtmgjcjacoegocaaDoor.Lk

namespace Go.Proofs.YtmgjcjacoegocaaDoor.Lk
set_option maxRecDepth 100000
open Go.RowKit Go.Proofs.YtmgjcjacoegocaaDoor.Wire

theorem bits_not32 (y : Nat) (h : y < 4294967296) : bits .xor .u32 IntKind.u32.max (y : Int) = ((4294967295 - y : Nat) : Int) := by
  unfold bits
  show IntKind.u32.wrap ((BitVec.ofInt 32 4294967295 ^^^ BitVec.ofInt 32 (y : Int)).toNat : Int) = _
  rw [show BitVec.ofInt 32 4294967295 = BitVec.allOnes 32 from by decide, BitVec.allOnes_xor, BitVec.toNat_not, ofInt_toNat32 y h]
  exact wrap_u32 _ (by omega) (by omega)
def regC (r : Nat) : Obj := .cells #[.int .u32 (r : Int)] 183
set_option maxHeartbeats 2000000 in
theorem feed_any (R r : Nat) (b : UInt8) (w : World) (hr : r < 4294967296) (h : w.heap[R]? = some (regC r)) :
    Calls Tryd.prog 87 #[.int .u8 (b.toNat : Int), .pointer (some ⟨R, 0, none⟩)] w fun e w' => e = .returned (.tuple #[]) ∧ w'.heap[R]? = some (regC (crcFeed r b)) ∧ w.grownBy w' (some R) := by
  have hb := b.toNat_lt
  have hx := bits_xor32 r b.toNat hr (by omega)
  have hin := crcIn_lt r b hr
  have HH := Lib.hid h; clear h
  have c0 := cell_of_box HH.out
  obtain ⟨c0, z0⟩ := c0
  have lt := blk_lt HH.out
  have HF : Hid (crcFeed r b = crcBits 8 (r ^^^ b.toNat)) := Lib.hid rfl
  go_enter Tryd.func87, Tryd.ntmps87
  go_wp2_with fail
  have HH1 := cells_eq (b := #[.int .u32 ((r ^^^ b.toNat : Nat) : Int)]) (block_setCell (k := 0) (v := .int .u32 ((r ^^^ b.toNat : Nat) : Int)) HH.out) rfl
  have HG1 := only_set (p := ⟨R, 0, none⟩) (only_refl w R) (.inl rfl) (.int .u32 ((r ^^^ b.toNat : Nat) : Int))
  clear c0 z0 hx
  generalize World.setCell w ⟨R, 0, none⟩ (.int .u32 ((r ^^^ b.toNat : Nat) : Int)) = w1 at *
  generalize r ^^^ b.toNat = x at *
  clear HH
  go_loopw [8] (fun i wr => ∃ k : Nat, k ≤ 8 ∧ i = .int .i64 (k : Int) ∧ wr.heap[R]? = some (regC (crcBits k x)) ∧ w.grownBy wr (some R)) (fun i _ => 8 - (intOf i).toNat)
  case atStart => exact ⟨0, by omega, rfl, HH1, HG1⟩
  case round =>
    clear HH1 HG1
    obtain ⟨k, hk, rfl, hh, hg⟩ := hrel
    have hxl := crcBits_lt k x hin
    have HS : Hid (crcBits (k + 1) x = crcBit (crcBits k x)) := Lib.hid rfl
    have HH := Lib.hid hh; have HG := Lib.hid hg; clear hh hg
    by_cases hlt : k < 8
    · have hkl : decide ((k : Int) < 8) = true := by simp; omega
      generalize crcBits k x = y at *
      have ha := bits_and32 y hxl
      have hy2 : y / 2 < 4294967296 := by omega
      have hx : bits .xor .u32 ((y / 2 : Nat) : Int) 3988292384 = ((y / 2 ^^^ 3988292384 : Nat) : Int) := bits_xor32 (y / 2) 3988292384 (by omega) (by omega)
      obtain ⟨c0, z0⟩ := cell_of_box HH.out
      by_cases ho : y % 2 = 1
      · have HB : Hid (crcBit y = (y / 2) ^^^ 3988292384) := Lib.hid (by unfold crcBit; rw [if_pos ho])
        rw [ho] at ha
        clear ho
        go_wp2_with fail
        have ey : ((y : Int) / 2) = ((y / 2 : Nat) : Int) := by omega
        rw [ey, hx]
        refine ⟨⟨k + 1, by omega, by go_num, ?_, only_set (only_set HG.out (.inl rfl) _) (.inl rfl) _⟩, by simp [intOf]; omega⟩
        rw [HS.out, HB.out]
        exact cells_eq (block_setCell (k := 0) (block_setCell (k := 0) HH.out)) rfl
      · have ho' : y % 2 = 0 := by omega
        have HB : Hid (crcBit y = y / 2) := Lib.hid (by unfold crcBit; rw [if_neg ho])
        rw [ho'] at ha
        clear ho ho'
        go_wp2_with fail
        have ey : ((y : Int) / 2) = ((y / 2 : Nat) : Int) := by omega
        rw [ey]
        refine ⟨⟨k + 1, by omega, by go_num, ?_, only_set HG.out (.inl rfl) _⟩, by simp [intOf]; omega⟩
        rw [HS.out, HB.out]
        exact cells_eq (block_setCell (k := 0) HH.out) rfl
    · obtain rfl : k = 8 := by omega
      go_wp2_with fail
      go_end0
      exact ⟨rfl, by rw [HF.out]; exact HH.out, HG.out⟩

set_option maxHeartbeats 2000000 in
theorem crc_any (s : ByteArray) (w : World) (hs : s.size ≤ 9223372036854775807) :
    Calls Tryd.prog 51 #[.string s] w fun e w' => e = .returned (.int .i64 (crc s.data.toList : Int)) ∧ Below w.heap.size w w' := by
  have H0 := Lib.hid (alloc_new w (.cells #[.int .u32 4294967295] 183))
  have HB := below_alloc (o := .cells #[.int .u32 4294967295] 183) (Below.refl w.heap.size w)
  have h00 : crcReg (s.data.toList.take 0) = 4294967295 := by rw [List.take_zero]; unfold crcReg; rw [List.foldl_nil]
  have HC0 : Hid (regC (crcReg (s.data.toList.take 0)) = .cells #[.int .u32 4294967295] 183) := Lib.hid (by rw [h00]; unfold regC; simp)
  clear h00
  have hlen : s.data.toList.length = s.size := rfl
  have HLen := Lib.hid hlen; clear hlen
  go_enter Tryd.func51, Tryd.ntmps51
  go_wp2_with fail
  go_loopw [9] (fun i wr => ∃ k : Nat, k ≤ s.size ∧ i = .int .i64 (k : Int) ∧ wr.heap[w.heap.size]? = some (regC (crcReg (s.data.toList.take k))) ∧ Below w.heap.size w wr) (fun i _ => s.size - (intOf i).toNat)
  case atStart => exact ⟨0, by omega, rfl, by rw [HC0.out]; exact H0.out, HB⟩
  case round =>
    clear HB H0 HC0
    obtain ⟨k, hk, rfl, hh, hb⟩ := hrel
    have hr := crcReg_lt (s.data.toList.take k)
    have HH := Lib.hid hh; clear hh
    by_cases hlt : k < s.size
    · have hkl : decide ((k : Int) < (s.size : Int)) = true := by simp; omega
      have HS : Hid (crcReg (s.data.toList.take (k + 1)) = crcFeed (crcReg (s.data.toList.take k)) s[k]) := Lib.hid (by
        rw [List.take_add_one, List.getElem?_eq_getElem (by rw [HLen.out]; exact hlt)]
        exact crcReg_snoc _ _)
      have HF := Lib.hid (feed_any w.heap.size (crcReg (s.data.toList.take k)) s[k] wr hr HH.out)
      generalize crcReg (s.data.toList.take k) = y at *
      go_wp2_with fail
      refine HF.out.mono ?_
      rintro e w2 ⟨rfl, h2, hg⟩
      have HB2 := below_only hb hg (Nat.le_refl _)
      go_wp2_with fail
      refine ⟨⟨k + 1, by omega, by go_num, by rw [HS.out]; exact h2, HB2⟩, by simp [intOf]; omega⟩
    · obtain rfl : k = s.size := by omega
      have HE : Hid (s.data.toList.take s.size = s.data.toList) := Lib.hid (List.take_of_length_le (by rw [HLen.out]; exact Nat.le_refl _))
      have HC : Hid (crc s.data.toList = 4294967295 - crcReg (s.data.toList.take s.size)) := Lib.hid (by rw [HE.out]; rfl)
      generalize crcReg (s.data.toList.take s.size) = y at *
      have hx := bits_not32 y hr
      obtain ⟨c0, z0⟩ := cell_of_box HH.out
      go_wp2_with fail
      go_ret
      exact ⟨ret_int (by rw [HC.out]; unfold wrap64; omega), hb⟩
end Go.Proofs.YtmgjcjacoegocaaDoor.Lk

namespace Go.Proofs.YtmgjcjacoegocaaDoor.Lk
set_option maxRecDepth 100000
open Go.RowKit Go.Proofs.YtmgjcjacoegocaaDoor.Wire

theorem ba_left (l : List UInt8) (s : ByteArray) : (⟨l.toArray⟩ : ByteArray) ++ s = ⟨(l ++ s.data.toList).toArray⟩ := by
  conv => lhs; rw [ba_self s]
  rw [ba_append]
theorem head_pes (to_ fm kd n : Int) : pes [(to_, 2), (fm, 2), (kd, 1), (n, 2)] = fhead to_ fm kd n := by
  simp [pes, fhead]
theorem sum_pes (n : Int) : pes [(n, 4)] = be 4 n := by simp [pes]
set_option maxHeartbeats 4000000 in
theorem encode_no (to_ fm kd : Int) (s : ByteArray) (w : World) (hs : s.size ≤ 9223372036854775807) (h : ¬ FrOk to_ fm kd s.size) :
    Calls Tryd.prog 35 #[.agg #[.int .i64 to_, .int .i64 fm, .int .i64 kd, .string s]] w fun e w' => e = .returned (.tuple #[.string ⟨#[]⟩, .int .i64 40]) ∧ Below w.heap.size w w' := by
  have HV : Hid (∀ W, Calls Tryd.prog 49 #[.agg #[.int .i64 to_, .int .i64 fm, .int .i64 kd, .string s]] W fun e w' => e = .returned (.bool false) ∧ Below W.heap.size W w') := Lib.hid fun W => (show frOkB to_ fm kd s.size = false from decide_eq_false h) ▸ valid_any to_ fm kd s W hs
  have Hm := Lib.hid (alloc_new w (.cells #[.int .i64 to_, .int .i64 fm, .int .i64 kd, .string s] 48))
  have HB := below_alloc (o := .cells #[.int .i64 to_, .int .i64 fm, .int .i64 kd, .string s] 48) (Below.refl w.heap.size w)
  go_enter Tryd.func35, Tryd.ntmps35
  go_wp2_with fail
  refine (HV.out _).mono ?_
  rintro e w1 ⟨rfl, hb⟩
  go_wp2_with fail
  go_ret2
  exact ⟨rfl, below_call HB hb⟩
def encL (to_ fm kd : Int) (s : ByteArray) : List UInt8 := fenc to_ fm kd s.data.toList
set_option maxHeartbeats 4000000 in
theorem encode_ok (to_ fm kd : Int) (s : ByteArray) (w : World) (a0 : Addr) (hg : Gl w a0) (h : FrOk to_ fm kd s.size) :
    Calls Tryd.prog 35 #[.agg #[.int .i64 to_, .int .i64 fm, .int .i64 kd, .string s]] w fun e w' => e = .returned (.tuple #[.string ⟨(encL to_ fm kd s).toArray⟩, .int .i64 0]) ∧ Below w.heap.size w w' := by
  have hs : s.size ≤ 1024 := by unfold FrOk at h; omega
  have HV : Hid (∀ W, Calls Tryd.prog 49 #[.agg #[.int .i64 to_, .int .i64 fm, .int .i64 kd, .string s]] W fun e w' => e = .returned (.bool true) ∧ Below W.heap.size W w') := Lib.hid fun W => (show frOkB to_ fm kd s.size = true from decide_eq_true h) ▸ valid_any to_ fm kd s W (by omega)
  have Hm := Lib.hid (alloc_new w (.cells #[.int .i64 to_, .int .i64 fm, .int .i64 kd, .string s] 48))
  have HB := below_alloc (o := .cells #[.int .i64 to_, .int .i64 fm, .int .i64 kd, .string s] 48) (Below.refl w.heap.size w)
  have hls : s.data.toList.length = s.size := rfl
  have HN1 : Hid (∀ W g, W.heap[g]? = some (.cells #[.int .i64 to_, .int .i64 2, .int .i64 fm, .int .i64 2, .int .i64 kd, .int .i64 1, .int .i64 s.size, .int .i64 2] 3 (0, 0)) → Calls Tryd.prog 74 #[.slice (some ⟨g, 0, none⟩) 8 8] W fun e w' => e = .returned (.tuple #[.string ⟨(fhead to_ fm kd s.size).toArray⟩, .nilIface]) ∧ Below W.heap.size W w') := Lib.hid fun W g hg => by
    rw [← head_pes]
    refine numbers_any g 4 8 8 _ W rfl rfl (by omega) ?_ hg
    intro x hx
    simp only [List.mem_cons, List.not_mem_nil, or_false] at hx
    unfold FrOk at h
    rcases hx with rfl | rfl | rfl | rfl
    · exact ⟨by omega, by omega, by show to_ < 65536; omega⟩
    · exact ⟨by omega, by omega, by show fm < 65536; omega⟩
    · exact ⟨by omega, by show 0 ≤ kd; omega, by show kd < 256; omega⟩
    · exact ⟨by omega, by show (0 : Int) ≤ s.size; omega, by show (s.size : Int) < 65536; omega⟩
  have hcl := crc_lt (fbody to_ fm kd s.data.toList)
  have HC : Hid (∀ W, Calls Tryd.prog 51 #[.string (⟨(fhead to_ fm kd s.size).toArray⟩ ++ s)] W fun e w' => e = .returned (.int .i64 (crc (fbody to_ fm kd s.data.toList) : Int)) ∧ Below W.heap.size W w') := Lib.hid fun W => by
    rw [ba_left]
    exact crc_any ⟨(fbody to_ fm kd s.data.toList).toArray⟩ W (by rw [sz, fbody_length]; omega)
  have HE : Hid (((⟨(fhead to_ fm kd s.size).toArray⟩ : ByteArray) ++ s) ++ ⟨(be 4 (crc (fbody to_ fm kd s.data.toList) : Int)).toArray⟩ = ⟨(encL to_ fm kd s).toArray⟩) := Lib.hid (by rw [ba_left, ba_append]; rfl)
  generalize crc (fbody to_ fm kd s.data.toList) = cr at *
  have HN2 : Hid (∀ W g, W.heap[g]? = some (.cells #[.int .i64 (cr : Int), .int .i64 4] 3 (0, 0)) → Calls Tryd.prog 74 #[.slice (some ⟨g, 0, none⟩) 2 2] W fun e w' => e = .returned (.tuple #[.string ⟨(be 4 (cr : Int)).toArray⟩, .nilIface]) ∧ Below W.heap.size W w') := Lib.hid fun W g hg => by
    rw [← sum_pes]
    refine numbers_any g 1 2 2 _ W rfl rfl (by omega) ?_ hg
    intro x hx
    simp only [List.mem_cons, List.not_mem_nil, or_false] at hx
    subst hx
    exact ⟨by omega, by show (0 : Int) ≤ cr; omega, by show (cr : Int) < 4294967296; omega⟩
  have hhl := fhead_length to_ fm kd s.size
  have hbl := be_length 4 (cr : Int)
  have HIS := Lib.hid fun W => is_nil a0 W
  generalize fhead to_ fm kd s.size = hd at *
  generalize be 4 (cr : Int) = tl at *
  have z0 : ¬ 9223372036854775807 < hd.length + s.size := by omega
  have z1 : ¬ 9223372036854775807 < hd.length + s.size + tl.length := by omega
  have HL := Lib.hid (hg.below HB)
  clear hg h hls
  go_enter Tryd.func35, Tryd.ntmps35
  go_wp2_with fail
  refine (HV.out _).mono ?_
  rintro e w1 ⟨rfl, hb⟩
  have HL' := Lib.hid (HL.out.below hb); clear HL; have HL := HL'; clear HL'
  have Hm' := Lib.hid (bblock hb Hm.out); clear Hm; have Hm := Hm'; clear Hm'
  have HB' := below_call HB hb; clear HB hb; have HB := HB'; clear HB'; have hz := HB.size
  have qm0 := (cell_of_block (k := 0) Hm.out rfl).1; have zm0 := (cell_of_block (k := 0) Hm.out rfl).2; have qm1 := (cell_of_block (k := 1) Hm.out rfl).1; have zm1 := (cell_of_block (k := 1) Hm.out rfl).2; have qm2 := (cell_of_block (k := 2) Hm.out rfl).1; have zm2 := (cell_of_block (k := 2) Hm.out rfl).2; have qm3 := (cell_of_block (k := 3) Hm.out rfl).1; have zm3 := (cell_of_block (k := 3) Hm.out rfl).2; have lt_m := blk_lt Hm.out
  go_wp2_with fail
  refine (HN1.out _ _ (by exact alloc_new _ _)).mono ?_
  rintro e w2 ⟨rfl, hb⟩
  have hb' := below_call (below_alloc (Below.refl w1.heap.size w1)) hb; clear hb; have hb := hb'; clear hb'
  have HL' := Lib.hid (HL.out.below hb); clear HL; have HL := HL'; clear HL'
  clear qm0 zm0 qm1 zm1 qm2 zm2 qm3 zm3 lt_m
  have Hm' := Lib.hid (bblock hb Hm.out); clear Hm; have Hm := Hm'; clear Hm'
  have HB' := below_call HB hb; clear HB hb; have HB := HB'; clear HB'; have hz := HB.size
  have gl : w2.cell? ⟨0, 0, none⟩ = some (errV a0) := HL.out
  go_wp2_with fail
  refine (HIS.out _).mono ?_
  rintro e w3 ⟨rfl, rfl⟩
  have qm3 := (cell_of_block (k := 3) Hm.out rfl).1; have zm3 := (cell_of_block (k := 3) Hm.out rfl).2; have lt_m := blk_lt Hm.out
  go_wp2_with fail
  refine (HC.out _).mono ?_
  rintro e w3 ⟨rfl, hb⟩
  have HL' := Lib.hid (HL.out.below hb); clear HL; have HL := HL'; clear HL'
  clear qm3 zm3 lt_m
  clear gl
  have Hm' := Lib.hid (bblock hb Hm.out); clear Hm; have Hm := Hm'; clear Hm'
  have HB' := below_call HB hb; clear HB hb; have HB := HB'; clear HB'; have hz := HB.size
  go_wp2_with fail
  refine (HN2.out _ _ (by exact alloc_new _ _)).mono ?_
  rintro e w4 ⟨rfl, hb⟩
  have hb' := below_call (below_alloc (Below.refl w3.heap.size w3)) hb; clear hb; have hb := hb'; clear hb'
  have HL' := Lib.hid (HL.out.below hb); clear HL; have HL := HL'; clear HL'
  have HB' := below_call HB hb; clear HB hb; have HB := HB'; clear HB'; have hz := HB.size
  have gl : w4.cell? ⟨0, 0, none⟩ = some (errV a0) := HL.out
  go_wp2_with fail
  refine (HIS.out _).mono ?_
  rintro e w5 ⟨rfl, rfl⟩
  go_wp2_with fail
  go_ret2
  exact ⟨by rw [← HE.out]; rfl, HB⟩
end Go.Proofs.YtmgjcjacoegocaaDoor.Lk

namespace Go.Proofs.YtmgjcjacoegocaaDoor.Lk
set_option maxRecDepth 100000
open Go.RowKit Go.Proofs.YtmgjcjacoegocaaDoor.Wire Go.Shelf
attribute [local go_sem] Oper.semAt_some

set_option maxHeartbeats 400000 in
theorem number_yes (s : ByteArray) (a k : Int) (w : World) (h1 : 1 ≤ k) (h4 : k ≤ 4) (h0 : 0 ≤ a) (ha : a + k ≤ s.size) (hm : s.size ≤ 9223372036854775807) :
    Calls Tryd.prog 50 #[.string s, .int .i64 a, .int .i64 k] w fun e w' => e = .returned (.tuple #[.int .i64 (nm s.data.toList a.toNat k.toNat), .nilIface]) ∧ Below w.heap.size w w' := by
  have HG := Lib.hid fun w => get_okI s a k w h1 h4 h0 ha hm
  have HE : Hid (num (bytesAt s a.toNat k.toNat) = nm s.data.toList a.toNat k.toNat) := Lib.hid rfl
  generalize num (bytesAt s a.toNat k.toNat) = n at *
  generalize nm s.data.toList a.toNat k.toNat = n' at *
  obtain rfl := HE.out
  clear HE
  go_enter Tryd.func50, Tryd.ntmps50
  go_wp2_with fail
  refine (HG.out _).mono ?_
  rintro e w1 ⟨rfl, hb⟩
  go_wp2_with fail
  go_ret2
  exact ⟨rfl, hb⟩
theorem piece_any (s : ByteArray) (a b : Int) (w : World) (ha : 0 ≤ a) (hab : a ≤ b) (hb : b ≤ s.size) :
    Calls Tryd.prog 48 #[.string s, .int .i64 a, .int .i64 b] w fun e w' => e = .returned (.string (s.extract a.toNat b.toNat)) ∧ w = w' := by
  have h1 : 0 ≤ b := by omega
  go_enter Tryd.func48, Tryd.ntmps48
  go_wp2_with fail
  go_ret
  exact ⟨rfl, rfl⟩
theorem length_any (s : ByteArray) (w : World) :
    Calls Tryd.prog 47 #[.string s] w fun e w' => e = .returned (.int .i64 s.size) ∧ w = w' := by
  go_enter Tryd.func47, Tryd.ntmps47
  go_wp2_with fail
  go_ret
  exact ⟨rfl, rfl⟩
def rdC (s : ByteArray) : Obj := .cells #[.string s] 105
theorem fixed_any (s : ByteArray) (w : World) : Calls Tryd.prog 45 #[.agg #[.string s]] w fun e w' =>
    e = .returned (.func (Fn.func 84) #[] #[.pointer (some ⟨w.heap.size, 0, none⟩)]) ∧ w' = w.alloc (rdC s) := by
  unfold rdC
  go_enter Tryd.func45, Tryd.ntmps45
  go_wp2_with fail
  go_ret
  exact ⟨rfl, rfl⟩
/-- the numbers of the fixed fields -/
def fval (l : List UInt8) : Nat → Int
  | 0 => nm l 0 2
  | 1 => nm l 2 2
  | 2 => nm l 4 1
  | _ => nm l 5 2
theorem fval_bd (l : List UInt8) (i : Nat) : 0 ≤ fval l i ∧ fval l i < 65536 := by
  have h0 := nm_bd l 0 2; have h1 := nm_bd l 2 2; have h2 := nm_bd l 4 1; have h3 := nm_bd l 5 2
  match i with
  | 0 => exact ⟨h0.1, by show nm l 0 2 < 65536; have := h0.2; simp at this; omega⟩
  | 1 => exact ⟨h1.1, by show nm l 2 2 < 65536; have := h1.2; simp at this; omega⟩
  | 2 => exact ⟨h2.1, by show nm l 4 1 < 65536; have := h2.2; simp at this; omega⟩
  | i + 3 => exact ⟨h3.1, by show nm l 5 2 < 65536; have := h3.2; simp at this; omega⟩
def ofs : Nat → Int | 0 => 0 | 1 => 2 | 2 => 4 | 3 => 5 | _ => 7
set_option maxHeartbeats 2000000 in
theorem fixed1_wide (n : Nat) (hn : 1 ≤ n) (s : ByteArray) (h7 : 7 ≤ s.size) (hm : s.size ≤ 9223372036854775807) (R l : Nat) (r : Loop)
    (X : Nat → World → Prop) (Xx : Code → World → Prop) (hXr : ∀ i W, X i W → W.heap[R]? = some (rdC s)) (hX : ∀ i W W', X i W → Below W.heap.size W W' → X i W')
    (hY : ∀ i W1, i < 4 → X i W1 → LoopK l r W1 → YieldAt Fence.wide (n - 1) Tryd.prog (l + 1) #[.int .i64 (fval s.data.toList i), .nilIface] W1 fun e W' =>
      (e = .returned (.bool true) ∧ X (i + 1) W' ∧ LoopK l r W') ∨ (e = .returned (.bool false) ∧ ∃ c, Xx c W' ∧ LoopK l { r with state := .done, pending := some c } W'))
    (W : World) (hx : X 0 W) (hk : LoopK l r W) :
    CallsIn Fence.wide n Tryd.prog 84 #[.func (.yield (l + 1)) #[] #[], .pointer (some ⟨R, 0, none⟩)] W fun e W' => (∃ v, e = .returned v) ∧
      ((X 4 W' ∧ LoopK l r W') ∨ ∃ c, Xx c W' ∧ LoopK l { r with state := .done, pending := some c } W') := by
  refine callsIn_of_wp Tryd.func84 rfl trivial ?_ rfl
  simp only [Tryd.ntmps84, List.size_toArray, List.length_cons, List.length_nil, Nat.reduceAdd, Nat.reduceSub, Array.replicate_succ, Array.replicate_zero, List.push_toArray, List.append_toArray, List.nil_append, List.cons_append]
  gi_wp2
  gi_loopw [3, 7] (fun u i wr => ∃ k : Nat, k ≤ 4 ∧ i = .int .i64 (k : Int) ∧ u = .int .i64 (ofs k) ∧ X k wr ∧ LoopK l r wr) (fun _ i wr => 4 - (intOf i).toNat)
  case atStart => exact ⟨0, by omega, rfl, rfl, hx, hk⟩
  case round =>
    clear hx hk
    obtain ⟨k, hk4, rfl, rfl, hXk, hL⟩ := hrel
    have HXk := Lib.hid hXk; have HL := Lib.hid hL; clear hXk hL
    by_cases hlt : k < 4
    · match k, hlt with
      | 0, _ =>
        have hix : ∀ W, (Instr.index 106 (.agg #[.int .i64 2, .int .i64 2, .int .i64 1, .int .i64 2]) (.int .i64 0)).run Tryd.prog W = .ok (.int .i64 2) W := fun _ => by kernel_rfl
        have HN := Lib.hid fun W' => number_yes s 0 2 W' (by omega) (by omega) (by omega) (by omega) hm
        have HF : Hid (nm s.data.toList ((0 : Int)).toNat ((2 : Int)).toNat = fval s.data.toList 0) := Lib.hid rfl
        generalize nm s.data.toList ((0 : Int)).toNat ((2 : Int)).toNat = v at *
        have hr := hXr _ _ HXk.out
        unfold rdC at hr
        have c0 := (cell_of_box hr).1
        clear hr
        simp only [ofs] at *
        gi_wp2_with (refine ⟨trivial, ?_⟩; gi_at_call 50; refine (callsIn_wide.2 (HN.out _)).mono ?_; rintro e w3 ⟨rfl, hb⟩; have L3 := Lib.hid (HL.out.below hb); have X3 := Lib.hid (hX 0 _ _ HXk.out hb); obtain ⟨fn, tmps, assign, body, hy, hRn⟩ := hY 0 w3 (by omega) X3.out L3.out; rw [← HF.out] at hy)
        refine hRn.mono ?_
        rintro e W' (⟨rfl, hX', hL'⟩ | ⟨rfl, c, hx', hk'⟩)
        · gi_wp2
          go_roundw
          case rel => exact ⟨1, by omega, rfl, rfl, hX', hL'⟩
          case measure => simp [intOf]
        · gi_wp2
          refine bodyPost_ret (results_none rfl _ _ _) rfl ?_
          exact ⟨⟨_, rfl⟩, .inr ⟨c, hx', hk'⟩⟩
      | 1, _ =>
        have hix : ∀ W, (Instr.index 106 (.agg #[.int .i64 2, .int .i64 2, .int .i64 1, .int .i64 2]) (.int .i64 1)).run Tryd.prog W = .ok (.int .i64 2) W := fun _ => by kernel_rfl
        have HN := Lib.hid fun W' => number_yes s 2 2 W' (by omega) (by omega) (by omega) (by omega) hm
        have HF : Hid (nm s.data.toList ((2 : Int)).toNat ((2 : Int)).toNat = fval s.data.toList 1) := Lib.hid rfl
        generalize nm s.data.toList ((2 : Int)).toNat ((2 : Int)).toNat = v at *
        have hr := hXr _ _ HXk.out
        unfold rdC at hr
        have c0 := (cell_of_box hr).1
        clear hr
        simp only [ofs] at *
        gi_wp2_with (refine ⟨trivial, ?_⟩; gi_at_call 50; refine (callsIn_wide.2 (HN.out _)).mono ?_; rintro e w3 ⟨rfl, hb⟩; have L3 := Lib.hid (HL.out.below hb); have X3 := Lib.hid (hX 1 _ _ HXk.out hb); obtain ⟨fn, tmps, assign, body, hy, hRn⟩ := hY 1 w3 (by omega) X3.out L3.out; rw [← HF.out] at hy)
        refine hRn.mono ?_
        rintro e W' (⟨rfl, hX', hL'⟩ | ⟨rfl, c, hx', hk'⟩)
        · gi_wp2
          go_roundw
          case rel => exact ⟨2, by omega, rfl, rfl, hX', hL'⟩
          case measure => simp [intOf]
        · gi_wp2
          refine bodyPost_ret (results_none rfl _ _ _) rfl ?_
          exact ⟨⟨_, rfl⟩, .inr ⟨c, hx', hk'⟩⟩
      | 2, _ =>
        have hix : ∀ W, (Instr.index 106 (.agg #[.int .i64 2, .int .i64 2, .int .i64 1, .int .i64 2]) (.int .i64 2)).run Tryd.prog W = .ok (.int .i64 1) W := fun _ => by kernel_rfl
        have HN := Lib.hid fun W' => number_yes s 4 1 W' (by omega) (by omega) (by omega) (by omega) hm
        have HF : Hid (nm s.data.toList ((4 : Int)).toNat ((1 : Int)).toNat = fval s.data.toList 2) := Lib.hid rfl
        generalize nm s.data.toList ((4 : Int)).toNat ((1 : Int)).toNat = v at *
        have hr := hXr _ _ HXk.out
        unfold rdC at hr
        have c0 := (cell_of_box hr).1
        clear hr
        simp only [ofs] at *
        gi_wp2_with (refine ⟨trivial, ?_⟩; gi_at_call 50; refine (callsIn_wide.2 (HN.out _)).mono ?_; rintro e w3 ⟨rfl, hb⟩; have L3 := Lib.hid (HL.out.below hb); have X3 := Lib.hid (hX 2 _ _ HXk.out hb); obtain ⟨fn, tmps, assign, body, hy, hRn⟩ := hY 2 w3 (by omega) X3.out L3.out; rw [← HF.out] at hy)
        refine hRn.mono ?_
        rintro e W' (⟨rfl, hX', hL'⟩ | ⟨rfl, c, hx', hk'⟩)
        · gi_wp2
          go_roundw
          case rel => exact ⟨3, by omega, rfl, rfl, hX', hL'⟩
          case measure => simp [intOf]
        · gi_wp2
          refine bodyPost_ret (results_none rfl _ _ _) rfl ?_
          exact ⟨⟨_, rfl⟩, .inr ⟨c, hx', hk'⟩⟩
      | 3, _ =>
        have hix : ∀ W, (Instr.index 106 (.agg #[.int .i64 2, .int .i64 2, .int .i64 1, .int .i64 2]) (.int .i64 3)).run Tryd.prog W = .ok (.int .i64 2) W := fun _ => by kernel_rfl
        have HN := Lib.hid fun W' => number_yes s 5 2 W' (by omega) (by omega) (by omega) (by omega) hm
        have HF : Hid (nm s.data.toList ((5 : Int)).toNat ((2 : Int)).toNat = fval s.data.toList 3) := Lib.hid rfl
        generalize nm s.data.toList ((5 : Int)).toNat ((2 : Int)).toNat = v at *
        have hr := hXr _ _ HXk.out
        unfold rdC at hr
        have c0 := (cell_of_box hr).1
        clear hr
        simp only [ofs] at *
        gi_wp2_with (refine ⟨trivial, ?_⟩; gi_at_call 50; refine (callsIn_wide.2 (HN.out _)).mono ?_; rintro e w3 ⟨rfl, hb⟩; have L3 := Lib.hid (HL.out.below hb); have X3 := Lib.hid (hX 3 _ _ HXk.out hb); obtain ⟨fn, tmps, assign, body, hy, hRn⟩ := hY 3 w3 (by omega) X3.out L3.out; rw [← HF.out] at hy)
        refine hRn.mono ?_
        rintro e W' (⟨rfl, hX', hL'⟩ | ⟨rfl, c, hx', hk'⟩)
        · gi_wp2
          go_roundw
          case rel => exact ⟨4, by omega, rfl, rfl, hX', hL'⟩
          case measure => simp [intOf]
        · gi_wp2
          refine bodyPost_ret (results_none rfl _ _ _) rfl ?_
          exact ⟨⟨_, rfl⟩, .inr ⟨c, hx', hk'⟩⟩
    · obtain rfl : k = 4 := by omega
      gi_wp2
      go_end0
      exact ⟨⟨_, rfl⟩, .inl ⟨HXk.out, HL.out⟩⟩
end Go.Proofs.YtmgjcjacoegocaaDoor.Lk

namespace Go.Proofs.YtmgjcjacoegocaaDoor.Lk
set_option maxRecDepth 100000
open Go.RowKit Go.Proofs.YtmgjcjacoegocaaDoor.Wire Go.Shelf
attribute [local go_sem] Oper.semAt_some

/-- the fields that have been read so far -/
def fcells (l : List UInt8) : Nat → Array Value
  | 0 => #[.int .i64 0, .int .i64 0, .int .i64 0, .int .i64 0]
  | 1 => #[.int .i64 (fval l 0), .int .i64 0, .int .i64 0, .int .i64 0]
  | 2 => #[.int .i64 (fval l 0), .int .i64 (fval l 1), .int .i64 0, .int .i64 0]
  | 3 => #[.int .i64 (fval l 0), .int .i64 (fval l 1), .int .i64 (fval l 2), .int .i64 0]
  | _ => #[.int .i64 (fval l 0), .int .i64 (fval l 1), .int .i64 (fval l 2), .int .i64 (fval l 3)]
structure XDc (w : World) (s : ByteArray) (a0 : Addr) (i : Nat) (W : World) : Prop where
  a2 : W.heap[w.heap.size]? = some (.cells #[.int .i64 0, .int .i64 0, .int .i64 0, .string ⟨#[]⟩] 48 (0, 0))
  a4 : W.heap[w.heap.size + 1]? = some (.cells #[.string s] 105 (0, 0))
  a5 : W.heap[w.heap.size + 1 + 1]? = some (.cells (fcells s.data.toList i) 106 (0, 0))
  a6 : W.heap[w.heap.size + 1 + 1 + 1]? = some (.cells #[.int .i64 (i : Int)] 3 (0, 0))
  rd : W.heap[w.heap.size + 1 + 1 + 1 + 1]? = some (rdC s)
  gl : Gl W a0
  below : Below w.heap.size w W
theorem XDc.down {w s a0 i W W'} (h : XDc w s a0 i W) (hb : Below W.heap.size W W') : XDc w s a0 i W' := ⟨bblock hb h.a2, bblock hb h.a4, bblock hb h.a5, bblock hb h.a6, bblock hb h.rd, h.gl.below hb, below_call h.below hb⟩
theorem XDc.step {w s a0 i W} (h : XDc w s a0 i W) (j : Nat) (_ : j = i + 1) (v : Value) (e : (fcells s.data.toList i).setIfInBounds i v = fcells s.data.toList j) :
    XDc w s a0 j ((W.setCell ⟨w.heap.size + 1 + 1, i, none⟩ v).setCell ⟨w.heap.size + 1 + 1 + 1, 0, none⟩ (.int .i64 (j : Int))) := by
  have hg := h.gl
  exact ⟨block_set_other (block_set_other h.a2 (by first | (simp; done) | (simp; omega))) (by first | (simp; done) | (simp; omega)), block_set_other (block_set_other h.a4 (by first | (simp; done) | (simp; omega))) (by first | (simp; done) | (simp; omega)), block_set_other (cells_eq (block_setCell h.a5) e) (by simp), cells_eq (block_setCell (k := 0) (block_set_other h.a6 (by simp))) rfl, block_set_other (block_set_other h.rd (by simp)) (by simp), cell_set_other (cell_set_other hg (by simp)) (by simp), Below.setCell (Below.setCell h.below (by simp; omega) _) (by simp; omega) _⟩
theorem XDc.put {w s a0 i W} (h : XDc w s a0 i W) {l : Nat} (hl : w.heap.size + 5 ≤ l) (hw : 1 ≤ w.heap.size) (o : Obj) : XDc w s a0 i (W.putObj l o) :=
  ⟨(World.putObj_heap_other (by omega)).trans h.a2, (World.putObj_heap_other (by omega)).trans h.a4, (World.putObj_heap_other (by omega)).trans h.a5, (World.putObj_heap_other (by omega)).trans h.a6, (World.putObj_heap_other (by omega)).trans h.rd, by
    have q : ∀ k, k < 1 → (W.putObj l o).heap[k]? = W.heap[k]? := fun k hk => World.putObj_heap_other (by omega)
    have := h.gl; unfold Gl World.cell? at this ⊢; rw [q _ (by decide)]; exact this, ⟨h.below.os, h.below.tape, h.below.output, by simpa [World.putObj] using h.below.size, fun k hk => (World.putObj_heap_other (by omega)).trans (h.below.block k hk)⟩⟩
theorem below_put {B : Nat} {w W : World} (h : Below B w W) {l : Nat} (hl : B ≤ l) (o : Obj) : Below B w (W.putObj l o) :=
  ⟨h.os, h.tape, h.output, by simpa [World.putObj] using h.size, fun k hk => (World.putObj_heap_other (by omega)).trans (h.block k hk)⟩
theorem keeps_below {W W' : World} (h : Below W.heap.size W W') : KeepsOthers W W' := ⟨h.size, fun _ _ hk _ => bblock h hk⟩
def dcVal (l : List UInt8) : Value := .agg #[.int .i64 (fval l 0), .int .i64 (fval l 1), .int .i64 (fval l 2), .string ⟨((l.drop 7).take (fval l 3).toNat).toArray⟩]
def DcPost (s : ByteArray) (w : World) (e : Ending) (w' : World) : Prop := Below w.heap.size w w' ∧
  ((Dk s.data.toList ∧ e = .returned (.tuple #[dcVal s.data.toList, .int .i64 0])) ∨ (¬ Dk s.data.toList ∧ e = .returned (.tuple #[.agg #[.int .i64 0, .int .i64 0, .int .i64 0, .string ⟨#[]⟩], .int .i64 40])))
set_option maxHeartbeats 4000000 in
theorem decode_any (s : ByteArray) (h7 : 7 ≤ s.size) (hm : s.size ≤ 9223372036854775807) (a0 : Addr) (w : World) (hg : Gl w a0) (hw : 1 ≤ w.heap.size) :
    Calls Tryd.prog 17 #[.string s] w (DcPost s w) := by
  have H2 := alloc_new' w (.cells #[.int .i64 0, .int .i64 0, .int .i64 0, .string ⟨#[]⟩] 48) (w.heap.size) rfl
  have H4 := alloc_new' (World.alloc w (.cells #[.int .i64 0, .int .i64 0, .int .i64 0, .string ⟨#[]⟩] 48)) (.cells #[.string s] 105) (w.heap.size + 1) (by simp)
  have H2 := block_alloc H2 (.cells #[.string s] 105)
  have H5 := alloc_new' (World.alloc (World.alloc w (.cells #[.int .i64 0, .int .i64 0, .int .i64 0, .string ⟨#[]⟩] 48)) (.cells #[.string s] 105)) (.cells #[.int .i64 0, .int .i64 0, .int .i64 0, .int .i64 0] 106) (w.heap.size + 1 + 1) (by simp)
  have H2 := block_alloc H2 (.cells #[.int .i64 0, .int .i64 0, .int .i64 0, .int .i64 0] 106)
  have H4 := block_alloc H4 (.cells #[.int .i64 0, .int .i64 0, .int .i64 0, .int .i64 0] 106)
  have H6 := alloc_new' (World.alloc (World.alloc (World.alloc w (.cells #[.int .i64 0, .int .i64 0, .int .i64 0, .string ⟨#[]⟩] 48)) (.cells #[.string s] 105)) (.cells #[.int .i64 0, .int .i64 0, .int .i64 0, .int .i64 0] 106)) (.cells #[.int .i64 0] 3) (w.heap.size + 1 + 1 + 1) (by simp)
  have H2 := block_alloc H2 (.cells #[.int .i64 0] 3)
  have H4 := block_alloc H4 (.cells #[.int .i64 0] 3)
  have H5 := block_alloc H5 (.cells #[.int .i64 0] 3)
  have HR := alloc_new' (World.alloc (World.alloc (World.alloc (World.alloc w (.cells #[.int .i64 0, .int .i64 0, .int .i64 0, .string ⟨#[]⟩] 48)) (.cells #[.string s] 105)) (.cells #[.int .i64 0, .int .i64 0, .int .i64 0, .int .i64 0] 106)) (.cells #[.int .i64 0] 3)) (rdC s) (w.heap.size + 1 + 1 + 1 + 1) (by simp)
  have H2 := block_alloc H2 (rdC s)
  have H4 := block_alloc H4 (rdC s)
  have H5 := block_alloc H5 (rdC s)
  have H6 := block_alloc H6 (rdC s)
  have HB := below_alloc (o := rdC s) (below_alloc (o := .cells #[.int .i64 0] 3) (below_alloc (o := .cells #[.int .i64 0, .int .i64 0, .int .i64 0, .int .i64 0] 106) (below_alloc (o := .cells #[.string s] 105) (below_alloc (o := .cells #[.int .i64 0, .int .i64 0, .int .i64 0, .string ⟨#[]⟩] 48) (Below.refl w.heap.size w)))))
  have HX0 : Hid (XDc w s a0 0 (World.alloc (World.alloc (World.alloc (World.alloc (World.alloc w (.cells #[.int .i64 0, .int .i64 0, .int .i64 0, .string ⟨#[]⟩] 48)) (.cells #[.string s] 105)) (.cells #[.int .i64 0, .int .i64 0, .int .i64 0, .int .i64 0] 106)) (.cells #[.int .i64 0] 3)) (rdC s))) := Lib.hid ⟨H2, H4, H5, H6, HR, hg.below HB, HB⟩
  have HSZ := Lib.hid (show (World.alloc (World.alloc (World.alloc (World.alloc (World.alloc w (.cells #[.int .i64 0, .int .i64 0, .int .i64 0, .string ⟨#[]⟩] 48)) (.cells #[.string s] 105)) (.cells #[.int .i64 0, .int .i64 0, .int .i64 0, .int .i64 0] 106)) (.cells #[.int .i64 0] 3)) (rdC s)).heap.size = w.heap.size + 5 by simp)
  clear H2 H4 H5 H6 HR HB hg
  have HFX := Lib.hid fun W => fixed_any s W
  have HIS := Lib.hid fun W => is_nil a0 W
  refine (callsIn_wide (n := 9)).1 ?_
  refine callsIn_of_wp_marks Tryd.func17 rfl trivial ?_ rfl
  simp only [Tryd.ntmps17, List.size_toArray, List.length_cons, List.length_nil, Nat.reduceAdd, Nat.reduceSub, Array.replicate_succ, Array.replicate_zero, List.push_toArray, List.append_toArray, List.nil_append, List.cons_append]
  refine wpIn_wide.2 ?_
  go_wp2_with fail
  go_step3
  go_wp2_with fail
  go_step3
  go_wp2_with (go_at_call 45; refine (HFX.out _).mono ?_; rintro e w' ⟨rfl, rfl⟩)
  refine (wpIn_wide (n := 9)).1 ?_
  generalize (World.alloc (World.alloc (World.alloc (World.alloc (World.alloc w (.cells #[.int .i64 0, .int .i64 0, .int .i64 0, .string ⟨#[]⟩] 48)) (.cells #[.string s] 105)) (.cells #[.int .i64 0, .int .i64 0, .int .i64 0, .int .i64 0] 106)) (.cells #[.int .i64 0] 3)) (rdC s)) = W0 at *
  have hSZ := HSZ.out
  refine wpIn_rangeFunc_st (F := Fence.wide) rfl (by omega) (gf := 84) (lb := #[.pointer (some ⟨w.heap.size + 1 + 1 + 1 + 1, 0, none⟩)]) rfl trivial (enters_of Tryd.func84 (by kernel_rfl) rfl)
    (fun i => #[.int .i64 (fval s.data.toList i), .nilIface]) (fun _ => rfl) (fun W => XDc w s a0 0 W) (fun i W => i < 4 ∧ XDc w s a0 i W) (fun i W => XDc w s a0 (i + 1) W) (fun _ _ => False) (fun W => XDc w s a0 4 W)
    (fun o o' => ?j0) (fun i W l o hl h => ?j1) (fun i W l o hl h => ?j2) (fun c W l o hl h => h.elim) (fun W l o hl h => ?j4)
    (fun l r W hl h0 hk hY => fixed1_wide 8 (by omega) s h7 hm _ l r (fun i W => XDc w s a0 i W) (fun _ _ => False) (fun i W h => h.rd) (fun i W W' h hb => h.down hb) (fun i W1 hi hx hk => hY i W1 ⟨hi, hx⟩ hk) W h0 hk)
    (fun i => { tmps := #[.string s, undef, .pointer (some ⟨w.heap.size, 0, none⟩), .int .i64 0, .pointer (some ⟨w.heap.size + 1, 0, none⟩), .pointer (some ⟨w.heap.size + 1 + 1, 0, none⟩), .pointer (some ⟨w.heap.size + 1 + 1 + 1, 0, none⟩), .int .i64 (fval s.data.toList i), .nilIface, undef, undef, undef, undef, .string s, .agg #[.string s], .agg #[.string s], .func (Fn.func 84) #[] #[.pointer (some ⟨w.heap.size + 1 + 1 + 1 + 1, 0, none⟩)], .int .i64 (fval s.data.toList i), .nilIface, undef, undef, undef, undef, undef, undef, undef, undef, undef, undef, undef, undef, undef, undef, undef, undef, undef, undef, undef, undef, undef, undef, undef, undef, undef, undef, undef, undef, undef, undef, undef, undef, undef, undef, undef, undef, undef, undef, undef, undef, undef, undef, undef, undef, undef, undef, undef, undef, undef, undef, undef, undef, undef, undef, undef, undef, undef, undef, undef], defers := [] }) ?assign ?body ?done ?stop
  case j0 => exact HX0.out.down (((Below.refl _ _).alloc (Nat.le_refl _) o).alloc (by simp) o')
  case j1 => exact ⟨h.1, h.2.put (by omega) hw o⟩
  case j2 => exact h.put (by omega) hw o
  case j4 => exact h.put (by omega) hw o
  case stop => exact fun c W h => h.elim
  case assign =>
    intro l i W K hK
    gi_wp2
    exact hK
  case body =>
    rintro l i W ⟨hi, hX⟩
    have HX := Lib.hid hX; clear hX
    have gl : W.cell? ⟨0, 0, none⟩ = some (errV a0) := HX.out.gl
    have c6 := (cell_of_block (k := 0) HX.out.a6 rfl).1; have z6 := (cell_of_block (k := 0) HX.out.a6 rfl).2
    match i, hi with
    | 0, _ =>
      have c5 := (cell_of_block (k := 0) HX.out.a5 rfl).1; have z5 := (cell_of_block (k := 0) HX.out.a5 rfl).2
      gi_wp2_with (refine ⟨trivial, ?_⟩; gi_at_call 46; refine (CallsIn.inRound l (callsIn_wide.2 (HIS.out _))).mono ?_; rintro e w2 ⟨rfl, rfl⟩)
      exact ⟨(KeepsOthers.setCell _ _ _).trans (KeepsOthers.setCell _ _ _), HX.out.step 1 rfl _ rfl⟩
    | 1, _ =>
      have c5 := (cell_of_block (k := 1) HX.out.a5 rfl).1; have z5 := (cell_of_block (k := 1) HX.out.a5 rfl).2
      gi_wp2_with (refine ⟨trivial, ?_⟩; gi_at_call 46; refine (CallsIn.inRound l (callsIn_wide.2 (HIS.out _))).mono ?_; rintro e w2 ⟨rfl, rfl⟩)
      exact ⟨(KeepsOthers.setCell _ _ _).trans (KeepsOthers.setCell _ _ _), HX.out.step 2 rfl _ rfl⟩
    | 2, _ =>
      have c5 := (cell_of_block (k := 2) HX.out.a5 rfl).1; have z5 := (cell_of_block (k := 2) HX.out.a5 rfl).2
      gi_wp2_with (refine ⟨trivial, ?_⟩; gi_at_call 46; refine (CallsIn.inRound l (callsIn_wide.2 (HIS.out _))).mono ?_; rintro e w2 ⟨rfl, rfl⟩)
      exact ⟨(KeepsOthers.setCell _ _ _).trans (KeepsOthers.setCell _ _ _), HX.out.step 3 rfl _ rfl⟩
    | 3, _ =>
      have c5 := (cell_of_block (k := 3) HX.out.a5 rfl).1; have z5 := (cell_of_block (k := 3) HX.out.a5 rfl).2
      gi_wp2_with (refine ⟨trivial, ?_⟩; gi_at_call 46; refine (CallsIn.inRound l (callsIn_wide.2 (HIS.out _))).mono ?_; rintro e w2 ⟨rfl, rfl⟩)
      exact ⟨(KeepsOthers.setCell _ _ _).trans (KeepsOthers.setCell _ _ _), HX.out.step 4 rfl _ rfl⟩
  case done =>
    intro W hX hD
    rw [hSZ] at hD
    have HX := Lib.hid hX; have HD := Lib.hid hD; clear hX hD
    have hf3 := fval_bd s.data.toList 3
    have hll : s.data.toList.length = s.size := rfl
    have HDK : Hid (Dk s.data.toList ↔ ((s.size : Int) = 11 + fval s.data.toList 3 ∧ FrOk (fval s.data.toList 0) (fval s.data.toList 1) (fval s.data.toList 2) (fval s.data.toList 3) ∧ nm s.data.toList (s.size - 4) 4 = (crc (s.data.toList.take (s.size - 4)) : Int))) := Lib.hid Iff.rfl
    have HV : Hid (dcVal s.data.toList = .agg #[.int .i64 (fval s.data.toList 0), .int .i64 (fval s.data.toList 1), .int .i64 (fval s.data.toList 2), .string ⟨((s.data.toList.drop 7).take (fval s.data.toList 3).toNat).toArray⟩]) := Lib.hid rfl
    have H5 : Hid (W.heap[w.heap.size + 1 + 1]? = some (.cells #[.int .i64 (fval s.data.toList 0), .int .i64 (fval s.data.toList 1), .int .i64 (fval s.data.toList 2), .int .i64 (fval s.data.toList 3)] 106 (0, 0))) := Lib.hid HX.out.a5
    have HVV := Lib.hid fun (x : ByteArray) W => valid_any (fval s.data.toList 0) (fval s.data.toList 1) (fval s.data.toList 2) x W
    have H2 := Lib.hid HX.out.a2; have H4 := Lib.hid HX.out.a4; have H6 := Lib.hid HX.out.a6; have HG := Lib.hid HX.out.gl; have HB := HX.out.below; clear HX
    generalize fval s.data.toList 0 = f0 at *
    generalize fval s.data.toList 1 = f1 at *
    generalize fval s.data.toList 2 = f2 at *
    generalize fval s.data.toList 3 = f3 at *
    have c5 := (cell_of_block (k := 3) H5.out rfl).1
    have c6 := (cell_of_block (k := 0) H6.out rfl).1
    have c4 := (cell_of_block (k := 0) H4.out rfl).1
    have HLN := Lib.hid fun W => length_any s W
    have k1 : IntKind.i64.wrap (7 + f3) = 7 + f3 := IntWalk.i64_in _ (by omega)
    have k2 : IntKind.i64.wrap (7 + f3 + 4) = 7 + f3 + 4 := IntWalk.i64_in _ (by omega)
    by_cases hl : (s.size : Int) = 11 + f3
    · have hne : ((s.size : Int) != 7 + f3 + 4) = false := by rw [bne_eq_false_iff_eq]; omega
      go_upto_region 13 with (go_at_call 47; refine (HLN.out _).mono ?_; rintro e w' ⟨rfl, rfl⟩)
      obtain ⟨n3, rfl⟩ := Int.eq_ofNat_of_zero_le hf3.1
      have hsz : s.size = 11 + n3 := by omega
      have HPC : Hid (∀ W, Calls Tryd.prog 48 #[.string s, .int .i64 7, .int .i64 (7 + (n3 : Int))] W fun e w' => e = .returned (.string ⟨((s.data.toList.drop 7).take n3).toArray⟩) ∧ W = w') := Lib.hid fun W => by
        have h := piece_any s 7 (7 + (n3 : Int)) W (by omega) (by omega) (by omega)
        have e : s.extract (7 : Int).toNat (7 + (n3 : Int)).toNat = ⟨((s.data.toList.drop 7).take n3).toArray⟩ := by
          rw [show (7 : Int).toNat = 7 from rfl, show (7 + (n3 : Int)).toNat = 7 + n3 from by omega, ba_self (s.extract 7 (7 + n3)), extract_bytesAt]; rfl
        rw [e] at h; exact h
      have HPB : Hid (∀ W, Calls Tryd.prog 48 #[.string s, .int .i64 0, .int .i64 (7 + (n3 : Int))] W fun e w' => e = .returned (.string ⟨(s.data.toList.take (7 + n3)).toArray⟩) ∧ W = w') := Lib.hid fun W => by
        have h := piece_any s 0 (7 + (n3 : Int)) W (by omega) (by omega) (by omega)
        have e : s.extract (0 : Int).toNat (7 + (n3 : Int)).toNat = ⟨(s.data.toList.take (7 + n3)).toArray⟩ := by
          rw [show (0 : Int).toNat = 0 from rfl, show (7 + (n3 : Int)).toNat = 0 + (7 + n3) from by omega, ba_self (s.extract 0 (0 + (7 + n3))), extract_bytesAt]; unfold bytesAt; rw [List.drop_zero]
        rw [e] at h; exact h
      have HCR : Hid (∀ W, Calls Tryd.prog 51 #[.string ⟨(s.data.toList.take (7 + n3)).toArray⟩] W fun e w' => e = .returned (.int .i64 (crc (s.data.toList.take (7 + n3)) : Int)) ∧ Below W.heap.size W w') := Lib.hid fun W => crc_any ⟨(s.data.toList.take (7 + n3)).toArray⟩ W (by rw [sz, List.length_take]; omega)
      have HNM : Hid (∀ W, Calls Tryd.prog 50 #[.string s, .int .i64 (7 + (n3 : Int)), .int .i64 4] W fun e w' => e = .returned (.tuple #[.int .i64 (nm s.data.toList (7 + n3) 4), .nilIface]) ∧ Below W.heap.size W w') := Lib.hid fun W => by
        have h := number_yes s (7 + (n3 : Int)) 4 W (by omega) (by omega) (by omega) (by omega) hm
        rw [show (7 + (n3 : Int)).toNat = 7 + n3 from by omega] at h; exact h
      have HVA : Hid (∀ W, Calls Tryd.prog 49 #[.agg #[.int .i64 f0, .int .i64 f1, .int .i64 f2, .string ⟨((s.data.toList.drop 7).take n3).toArray⟩]] W fun e w' => e = .returned (.bool (frOkB f0 f1 f2 n3)) ∧ Below W.heap.size W w') := Lib.hid fun W => by
        have hz : (⟨((s.data.toList.drop 7).take n3).toArray⟩ : ByteArray).size = n3 := by rw [sz, List.length_take, List.length_drop]; omega
        have h := HVV.out ⟨((s.data.toList.drop 7).take n3).toArray⟩ W (by omega)
        rw [hz] at h; exact h
      have HDK' : Hid (Dk s.data.toList ↔ (FrOk f0 f1 f2 n3 ∧ nm s.data.toList (7 + n3) 4 = (crc (s.data.toList.take (7 + n3)) : Int))) := Lib.hid (by have h := HDK.out; rw [show s.size - 4 = 7 + n3 from by omega] at h; rw [h]; exact ⟨fun q => q.2, fun q => ⟨hl, q⟩⟩)
      have HV' : Hid (dcVal s.data.toList = .agg #[.int .i64 f0, .int .i64 f1, .int .i64 f2, .string ⟨((s.data.toList.drop 7).take n3).toArray⟩]) := Lib.hid (by rw [HV.out, Int.toNat_natCast])
      have hnb := nm_bd s.data.toList (7 + n3) 4
      have hcb := crc_lt (s.data.toList.take (7 + n3))
      clear HVV HDK HV
      generalize (⟨((s.data.toList.drop 7).take n3).toArray⟩ : ByteArray) = pay at *
      generalize (⟨(s.data.toList.take (7 + n3)).toArray⟩ : ByteArray) = body at *
      generalize nm s.data.toList (7 + n3) 4 = sm at *
      generalize crc (s.data.toList.take (7 + n3)) = cr at *
      have d0 := (cell_of_block (k := 0) H5.out rfl).1; have d1 := (cell_of_block (k := 1) H5.out rfl).1; have d2 := (cell_of_block (k := 2) H5.out rfl).1
      go_region_held3 (fun w' => w'.cell? ⟨w.heap.size + 1 + 1, 0, none⟩ = some (.int .i64 f0) ∧ w'.cell? ⟨w.heap.size + 1 + 1, 1, none⟩ = some (.int .i64 f1) ∧ w'.cell? ⟨w.heap.size + 1 + 1, 2, none⟩ = some (.int .i64 f2) ∧ w'.cell? ⟨w.heap.size + 1, 0, none⟩ = some (.string s)) (first | exact ⟨d0, d1, d2, c4⟩ | exact ⟨cell_alloc' _ d0, cell_alloc' _ d1, cell_alloc' _ d2, cell_alloc' _ c4⟩)
        ((go_at_call 48; refine (HPC.out _).mono ?_; rintro e w' ⟨rfl, rfl⟩))
      all_goals
        have hb := (below_alloc (o := .cells #[.int .i64 f0, .int .i64 f1, .int .i64 f2, .string pay] 48) (Below.refl W.heap.size W)).drew
        have HC := Lib.hid (show (W.alloc (.cells #[.int .i64 f0, .int .i64 f1, .int .i64 f2, .string pay] 48)).drew.heap[W.heap.size]? = some (.cells #[.int .i64 f0, .int .i64 f1, .int .i64 f2, .string pay] 48) from alloc_new W (.cells #[.int .i64 f0, .int .i64 f1, .int .i64 f2, .string pay] 48))
        have hzW := HB.size
        clear d0 d1 d2 c4 c5 c6
        have H2' := Lib.hid (bblock hb H2.out); clear H2; have H2 := H2'; clear H2'
        have H4' := Lib.hid (bblock hb H4.out); clear H4; have H4 := H4'; clear H4'
        have HD' := Lib.hid (bblock hb HD.out); clear HD; have HD := HD'; clear HD'
        have HG' := Lib.hid (HG.out.below hb); clear HG; have HG := HG'; clear HG'
        have HB' := below_call HB hb; clear HB hb; have HB := HB'; clear HB'
        generalize (W.alloc (.cells #[.int .i64 f0, .int .i64 f1, .int .i64 f2, .string pay] 48)).drew = W1 at *
        generalize W.heap.size = C at *
        have e0 := (cell_of_block (k := 0) HC.out rfl).1; have e1 := (cell_of_block (k := 1) HC.out rfl).1; have e2 := (cell_of_block (k := 2) HC.out rfl).1; have e3 := (cell_of_block (k := 3) HC.out rfl).1
        have ltC := blk_lt HC.out
        go_wp2_with fail
        refine (HVA.out _).mono ?_
        rintro e w2 ⟨rfl, hb⟩
        clear e0 e1 e2 e3
        have H2' := Lib.hid (bblock hb H2.out); clear H2; have H2 := H2'; clear H2'
        have H4' := Lib.hid (bblock hb H4.out); clear H4; have H4 := H4'; clear H4'
        have HD' := Lib.hid (bblock hb HD.out); clear HD; have HD := HD'; clear HD'
        have HC' := Lib.hid (bblock hb HC.out); clear HC; have HC := HC'; clear HC'
        have HG' := Lib.hid (HG.out.below hb); clear HG; have HG := HG'; clear HG'
        have HB' := below_call HB hb; clear HB hb; have HB := HB'; clear HB'
        by_cases hok : FrOk f0 f1 f2 n3
        · rw [show frOkB f0 f1 f2 n3 = true from decide_eq_true hok]
          have HOK := Lib.hid hok; clear hok
          have c4 := (cell_of_block (k := 0) H4.out rfl).1
          go_wp2_with fail
          refine (HNM.out _).mono ?_
          rintro e w3 ⟨rfl, hb⟩
          clear c4
          have H2' := Lib.hid (bblock hb H2.out); clear H2; have H2 := H2'; clear H2'
          have H4' := Lib.hid (bblock hb H4.out); clear H4; have H4 := H4'; clear H4'
          have HD' := Lib.hid (bblock hb HD.out); clear HD; have HD := HD'; clear HD'
          have HC' := Lib.hid (bblock hb HC.out); clear HC; have HC := HC'; clear HC'
          have HG' := Lib.hid (HG.out.below hb); clear HG; have HG := HG'; clear HG'
          have HB' := below_call HB hb; clear HB hb; have HB := HB'; clear HB'
          have c4 := (cell_of_block (k := 0) H4.out rfl).1
          have gl : w3.cell? ⟨0, 0, none⟩ = some (errV a0) := HG.out
          go_wp2_with (first | (go_at_call 48; refine (HPB.out _).mono ?_; rintro e w' ⟨rfl, rfl⟩) | (go_at_call 46; refine (HIS.out _).mono ?_; rintro e w' ⟨rfl, rfl⟩))
          refine (HCR.out _).mono ?_
          rintro e w4 ⟨rfl, hb⟩
          clear c4 gl
          have H2' := Lib.hid (bblock hb H2.out); clear H2; have H2 := H2'; clear H2'
          have H4' := Lib.hid (bblock hb H4.out); clear H4; have H4 := H4'; clear H4'
          have HD' := Lib.hid (bblock hb HD.out); clear HD; have HD := HD'; clear HD'
          have HC' := Lib.hid (bblock hb HC.out); clear HC; have HC := HC'; clear HC'
          have HG' := Lib.hid (HG.out.below hb); clear HG; have HG := HG'; clear HG'
          have HB' := below_call HB hb; clear HB hb; have HB := HB'; clear HB'
          have r0 := (cell_of_block (k := 0) H2.out rfl).1; have rz0 := (cell_of_block (k := 0) H2.out rfl).2; have r1 := (cell_of_block (k := 1) H2.out rfl).1; have rz1 := (cell_of_block (k := 1) H2.out rfl).2; have r2 := (cell_of_block (k := 2) H2.out rfl).1; have rz2 := (cell_of_block (k := 2) H2.out rfl).2; have r3 := (cell_of_block (k := 3) H2.out rfl).1; have rz3 := (cell_of_block (k := 3) H2.out rfl).2
          by_cases hs : sm = (cr : Int)
          · have hq : (sm != (cr : Int)) = false := by rw [bne_eq_false_iff_eq]; exact hs
            have e0 := (cell_of_block (k := 0) HC.out rfl).1; have e1 := (cell_of_block (k := 1) HC.out rfl).1; have e2 := (cell_of_block (k := 2) HC.out rfl).1; have e3 := (cell_of_block (k := 3) HC.out rfl).1
            go_wp2_with fail
            have hK2 := (block_set_other (a := ⟨w.heap.size, 3, none⟩) (u := .string pay) (block_set_other (a := ⟨w.heap.size, 2, none⟩) (u := .int .i64 f2) (block_set_other (a := ⟨w.heap.size, 1, none⟩) (u := .int .i64 f1) (block_set_other (a := ⟨w.heap.size, 0, none⟩) (u := .int .i64 f0) HD.out (by first | (simp; done) | (simp; omega))) (by first | (simp; done) | (simp; omega))) (by first | (simp; done) | (simp; omega))) (by first | (simp; done) | (simp; omega)))
            have hY2 := cells_eq (b := #[.int .i64 f0, .int .i64 f1, .int .i64 f2, .string pay]) (block_setCell (k := 3) (v := .string pay) (block_setCell (k := 2) (v := .int .i64 f2) (block_setCell (k := 1) (v := .int .i64 f1) (block_setCell (k := 0) (v := .int .i64 f0) H2.out)))) rfl
            have hB2 := (Below.setCell (Below.setCell (Below.setCell (Below.setCell HB (p := ⟨w.heap.size, 0, none⟩) (by simp) (.int .i64 f0)) (p := ⟨w.heap.size, 1, none⟩) (by simp) (.int .i64 f1)) (p := ⟨w.heap.size, 2, none⟩) (by simp) (.int .i64 f2)) (p := ⟨w.heap.size, 3, none⟩) (by simp) (.string pay))
            rw [Exit.noGoto_ret]
            refine ⟨by simp, .inl ⟨_, _, rfl, run_takeDeferred (by first | exact hK2 | (rw [hSZ]; exact hK2)), ?_⟩⟩
            refine ⟨.tuple #[.agg #[.int .i64 f0, .int .i64 f1, .int .i64 f2, .string pay], .int .i64 0], res_cell_tmp Tryd.results17 (g := w.heap.size) (t := 48) (cs := #[.int .i64 f0, .int .i64 f1, .int .i64 f2, .string pay]) (fr := (0, 0)) ((World.putObj_heap_other (by omega)).trans (by exact hY2)) rfl Tryd.underlying48 rfl (by kernel_rfl), below_put (by exact hB2) (by omega) _, .inl ⟨HDK'.out.2 ⟨HOK.out, hs⟩, by rw [HV'.out]⟩⟩
          · have hq : (sm != (cr : Int)) = true := by rw [bne_iff_ne]; exact hs
            go_wp2_with fail
            have hK2 := (block_set_other (a := ⟨w.heap.size, 3, none⟩) (u := .string ⟨#[]⟩) (block_set_other (a := ⟨w.heap.size, 2, none⟩) (u := .int .i64 0) (block_set_other (a := ⟨w.heap.size, 1, none⟩) (u := .int .i64 0) (block_set_other (a := ⟨w.heap.size, 0, none⟩) (u := .int .i64 0) HD.out (by first | (simp; done) | (simp; omega))) (by first | (simp; done) | (simp; omega))) (by first | (simp; done) | (simp; omega))) (by first | (simp; done) | (simp; omega)))
            have hY2 := cells_eq (b := #[.int .i64 0, .int .i64 0, .int .i64 0, .string ⟨#[]⟩]) (block_setCell (k := 3) (v := .string ⟨#[]⟩) (block_setCell (k := 2) (v := .int .i64 0) (block_setCell (k := 1) (v := .int .i64 0) (block_setCell (k := 0) (v := .int .i64 0) H2.out)))) rfl
            have hB2 := (Below.setCell (Below.setCell (Below.setCell (Below.setCell HB (p := ⟨w.heap.size, 0, none⟩) (by simp) (.int .i64 0)) (p := ⟨w.heap.size, 1, none⟩) (by simp) (.int .i64 0)) (p := ⟨w.heap.size, 2, none⟩) (by simp) (.int .i64 0)) (p := ⟨w.heap.size, 3, none⟩) (by simp) (.string ⟨#[]⟩))
            rw [Exit.noGoto_ret]
            refine ⟨by simp, .inl ⟨_, _, rfl, run_takeDeferred (by first | exact hK2 | (rw [hSZ]; exact hK2)), ?_⟩⟩
            refine ⟨.tuple #[.agg #[.int .i64 0, .int .i64 0, .int .i64 0, .string ⟨#[]⟩], .int .i64 40], res_cell_tmp Tryd.results17 (g := w.heap.size) (t := 48) (cs := #[.int .i64 0, .int .i64 0, .int .i64 0, .string ⟨#[]⟩]) (fr := (0, 0)) ((World.putObj_heap_other (by omega)).trans (by exact hY2)) rfl Tryd.underlying48 rfl (by kernel_rfl), below_put (by exact hB2) (by omega) _, .inr ⟨fun q => hs (HDK'.out.1 q).2, rfl⟩⟩
        · rw [show frOkB f0 f1 f2 n3 = false from decide_eq_false hok]
          have r0 := (cell_of_block (k := 0) H2.out rfl).1; have rz0 := (cell_of_block (k := 0) H2.out rfl).2; have r1 := (cell_of_block (k := 1) H2.out rfl).1; have rz1 := (cell_of_block (k := 1) H2.out rfl).2; have r2 := (cell_of_block (k := 2) H2.out rfl).1; have rz2 := (cell_of_block (k := 2) H2.out rfl).2; have r3 := (cell_of_block (k := 3) H2.out rfl).1; have rz3 := (cell_of_block (k := 3) H2.out rfl).2
          go_wp2_with fail
          have hK2 := (block_set_other (a := ⟨w.heap.size, 3, none⟩) (u := .string ⟨#[]⟩) (block_set_other (a := ⟨w.heap.size, 2, none⟩) (u := .int .i64 0) (block_set_other (a := ⟨w.heap.size, 1, none⟩) (u := .int .i64 0) (block_set_other (a := ⟨w.heap.size, 0, none⟩) (u := .int .i64 0) HD.out (by first | (simp; done) | (simp; omega))) (by first | (simp; done) | (simp; omega))) (by first | (simp; done) | (simp; omega))) (by first | (simp; done) | (simp; omega)))
          have hY2 := cells_eq (b := #[.int .i64 0, .int .i64 0, .int .i64 0, .string ⟨#[]⟩]) (block_setCell (k := 3) (v := .string ⟨#[]⟩) (block_setCell (k := 2) (v := .int .i64 0) (block_setCell (k := 1) (v := .int .i64 0) (block_setCell (k := 0) (v := .int .i64 0) H2.out)))) rfl
          have hB2 := (Below.setCell (Below.setCell (Below.setCell (Below.setCell HB (p := ⟨w.heap.size, 0, none⟩) (by simp) (.int .i64 0)) (p := ⟨w.heap.size, 1, none⟩) (by simp) (.int .i64 0)) (p := ⟨w.heap.size, 2, none⟩) (by simp) (.int .i64 0)) (p := ⟨w.heap.size, 3, none⟩) (by simp) (.string ⟨#[]⟩))
          rw [Exit.noGoto_ret]
          refine ⟨by simp, .inl ⟨_, _, rfl, run_takeDeferred (by first | exact hK2 | (rw [hSZ]; exact hK2)), ?_⟩⟩
          refine ⟨.tuple #[.agg #[.int .i64 0, .int .i64 0, .int .i64 0, .string ⟨#[]⟩], .int .i64 40], res_cell_tmp Tryd.results17 (g := w.heap.size) (t := 48) (cs := #[.int .i64 0, .int .i64 0, .int .i64 0, .string ⟨#[]⟩]) (fr := (0, 0)) ((World.putObj_heap_other (by omega)).trans (by exact hY2)) rfl Tryd.underlying48 rfl (by kernel_rfl), below_put (by exact hB2) (by omega) _, .inr ⟨fun q => hok (HDK'.out.1 q).1, rfl⟩⟩
    · have hne : ((s.size : Int) != 7 + f3 + 4) = true := by rw [bne_iff_ne]; omega
      have r0 := (cell_of_block (k := 0) H2.out rfl).1; have rz0 := (cell_of_block (k := 0) H2.out rfl).2; have r1 := (cell_of_block (k := 1) H2.out rfl).1; have rz1 := (cell_of_block (k := 1) H2.out rfl).2; have r2 := (cell_of_block (k := 2) H2.out rfl).1; have rz2 := (cell_of_block (k := 2) H2.out rfl).2; have r3 := (cell_of_block (k := 3) H2.out rfl).1; have rz3 := (cell_of_block (k := 3) H2.out rfl).2
      go_wp2_with (go_at_call 47; refine (HLN.out _).mono ?_; rintro e w' ⟨rfl, rfl⟩)
      have hK2 := (block_set_other (a := ⟨w.heap.size, 3, none⟩) (u := .string ⟨#[]⟩) (block_set_other (a := ⟨w.heap.size, 2, none⟩) (u := .int .i64 0) (block_set_other (a := ⟨w.heap.size, 1, none⟩) (u := .int .i64 0) (block_set_other (a := ⟨w.heap.size, 0, none⟩) (u := .int .i64 0) HD.out (by first | (simp; done) | (simp; omega))) (by first | (simp; done) | (simp; omega))) (by first | (simp; done) | (simp; omega))) (by first | (simp; done) | (simp; omega)))
      have hY2 := cells_eq (b := #[.int .i64 0, .int .i64 0, .int .i64 0, .string ⟨#[]⟩]) (block_setCell (k := 3) (v := .string ⟨#[]⟩) (block_setCell (k := 2) (v := .int .i64 0) (block_setCell (k := 1) (v := .int .i64 0) (block_setCell (k := 0) (v := .int .i64 0) H2.out)))) rfl
      have hB2 := (Below.setCell (Below.setCell (Below.setCell (Below.setCell HB (p := ⟨w.heap.size, 0, none⟩) (by simp) (.int .i64 0)) (p := ⟨w.heap.size, 1, none⟩) (by simp) (.int .i64 0)) (p := ⟨w.heap.size, 2, none⟩) (by simp) (.int .i64 0)) (p := ⟨w.heap.size, 3, none⟩) (by simp) (.string ⟨#[]⟩))
      rw [Exit.noGoto_ret]
      refine ⟨by simp, .inl ⟨_, _, rfl, run_takeDeferred (by first | exact hK2 | (rw [hSZ]; exact hK2)), ?_⟩⟩
      refine ⟨.tuple #[.agg #[.int .i64 0, .int .i64 0, .int .i64 0, .string ⟨#[]⟩], .int .i64 40], res_cell_tmp Tryd.results17 (g := w.heap.size) (t := 48) (cs := #[.int .i64 0, .int .i64 0, .int .i64 0, .string ⟨#[]⟩]) (fr := (0, 0)) ((World.putObj_heap_other (by omega)).trans (by exact hY2)) rfl Tryd.underlying48 rfl (by kernel_rfl), below_put (by exact hB2) (by omega) _, .inr ⟨fun q => hl (HDK.out.1 q).1, rfl⟩⟩
end Go.Proofs.YtmgjcjacoegocaaDoor.Lk

namespace Go.Proofs.YtmgjcjacoegocaaDoor.Lk
set_option maxRecDepth 100000
open Go.RowKit Go.Proofs.YtmgjcjacoegocaaDoor.Wire

theorem Gl.pos {W : World} {a0 : Addr} (h : Gl W a0) : 1 ≤ W.heap.size := by
  unfold Gl at h
  rcases Nat.lt_or_ge 0 W.heap.size with c | c
  · omega
  · simp [World.cell?, Array.getElem?_eq_none c] at h
theorem encode_fr (dst fm kd : Int) (R : List UInt8) (w : World) (a0 : Addr) (hg : Gl w a0) (h : FrOk dst fm kd R.length) :
    Calls Tryd.prog 35 #[.agg #[.int .i64 dst, .int .i64 fm, .int .i64 kd, .string ⟨R.toArray⟩]] w fun e w' => e = .returned (.tuple #[.string ⟨(fenc dst fm kd R).toArray⟩, .int .i64 0]) ∧ Below w.heap.size w w' :=
  encode_ok dst fm kd ⟨R.toArray⟩ w a0 hg h
theorem decode_fr (dst fm kd : Int) (R : List UInt8) (w : World) (a0 : Addr) (hg : Gl w a0) (h : FrOk dst fm kd R.length) :
    Calls Tryd.prog 17 #[.string ⟨(fenc dst fm kd R).toArray⟩] w fun e w' => e = .returned (.tuple #[.agg #[.int .i64 dst, .int .i64 fm, .int .i64 kd, .string ⟨R.toArray⟩], .int .i64 0]) ∧ Below w.heap.size w w' := by
  have hl := fenc_length dst fm kd R
  have hR : R.length ≤ 1024 := by unfold FrOk at h; omega
  refine (decode_any ⟨(fenc dst fm kd R).toArray⟩ (by rw [sz]; omega) (by rw [sz]; omega) a0 w hg hg.pos).mono ?_
  rintro e w' ⟨hb, ⟨-, rfl⟩ | ⟨hn, -⟩⟩
  · refine ⟨?_, hb⟩
    obtain ⟨e1, e2, e3, e4, -, -, e7⟩ := fenc_fields dst fm kd R h
    have : dcVal (fenc dst fm kd R) = .agg #[.int .i64 dst, .int .i64 fm, .int .i64 kd, .string ⟨R.toArray⟩] := by
      unfold dcVal fval
      rw [e1, e2, e3, e4]
      show Value.agg #[_, _, _, .string ⟨((List.drop 7 (fenc dst fm kd R)).take ((R.length : Int)).toNat).toArray⟩] = _
      rw [Int.toNat_natCast, e7]; rfl
    show Ending.returned (.tuple #[dcVal (fenc dst fm kd R), .int .i64 0]) = _
    rw [this]
  · exact absurd (fenc_dk dst fm kd R h) hn
theorem decode_flip (dst fm kd : Int) (R : List UInt8) (k : Nat) (v : UInt8) (w : World) (a0 : Addr) (hg : Gl w a0) (h : FrOk dst fm kd R.length) (hk : k < (fenc dst fm kd R).length) (hv : v ≠ (fenc dst fm kd R)[k]) :
    Calls Tryd.prog 17 #[.string ⟨((fenc dst fm kd R).set k v).toArray⟩] w fun e w' => e = .returned (.tuple #[.agg #[.int .i64 0, .int .i64 0, .int .i64 0, .string ⟨#[]⟩], .int .i64 40]) ∧ Below w.heap.size w w' := by
  have hl := fenc_length dst fm kd R
  have hR : R.length ≤ 1024 := by unfold FrOk at h; omega
  refine (decode_any ⟨((fenc dst fm kd R).set k v).toArray⟩ (by rw [sz, List.length_set]; omega) (by rw [sz, List.length_set]; omega) a0 w hg hg.pos).mono ?_
  rintro e w' ⟨hb, ⟨hd, -⟩ | ⟨-, rfl⟩⟩
  · exact absurd hd (dk_flip _ (fenc_dk dst fm kd R h) k v hk hv)
  · exact ⟨rfl, hb⟩
theorem xor_away (b : UInt8) (m : Nat) (h0 : 1 ≤ m) (h : m ≤ 255) : UInt8.ofNat (bits .xor .u8 (b.toNat : Int) (m : Int)).toNat ≠ b := by
  have hb := b.toNat_lt
  have hx : b.toNat ^^^ m < 2 ^ 8 := Nat.xor_lt_two_pow hb (by omega)
  have e : bits .xor .u8 (b.toNat : Int) (m : Int) = ((b.toNat ^^^ m : Nat) : Int) := by
    unfold bits
    show IntKind.u8.wrap ((BitVec.ofInt 8 (b.toNat : Int) ^^^ BitVec.ofInt 8 (m : Int)).toNat : Int) = _
    have e1 : (BitVec.ofInt 8 (b.toNat : Int)).toNat = b.toNat := by rw [BitVec.toNat_ofInt]; omega
    have e2 : (BitVec.ofInt 8 (m : Int)).toNat = m := by rw [BitVec.toNat_ofInt]; omega
    rw [BitVec.toNat_xor, e1, e2, IntKind.wrap_u8]
    omega
  rw [e, Int.toNat_natCast]
  intro h2
  have h3 := congrArg UInt8.toNat h2
  rw [UInt8.toNat_ofNat', Nat.mod_eq_of_lt hx] at h3
  have h4 : b.toNat ^^^ (b.toNat ^^^ m) = b.toNat ^^^ b.toNat := by rw [h3]
  rw [← Nat.xor_assoc, Nat.xor_self, Nat.zero_xor] at h4
  omega
end Go.Proofs.YtmgjcjacoegocaaDoor.Lk
