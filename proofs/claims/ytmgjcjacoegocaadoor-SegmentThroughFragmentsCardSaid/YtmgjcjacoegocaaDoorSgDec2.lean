/-
  segment.Decode by the segment that stands in the string.
-/
import Derived.Test.YtmgjcjacoegocaaDoorSgRead2
import Derived.Test.YtmgjcjacoegocaaDoorSgDec
namespace Go.Proofs.YtmgjcjacoegocaaDoor.Sg
set_option maxRecDepth 100000
open Go.RowKit Go.Proofs.YtmgjcjacoegocaaDoor.Wire

/-- a segment -/
structure Seg where
  fp : Int
  tp : Int
  sq : Int
  ack : Int
  syn : Bool
  fin : Bool
  rst : Bool
  ha : Bool
  win : Int
  mss : Int
  sacks : Bool
  bl : List (Int × Int)
  s : ByteArray
def Seg.val (x : Seg) (A : Option Addr) (c : Nat) : Value := .agg #[.int .i64 x.fp, .int .i64 x.tp, .int .i64 x.sq, .int .i64 x.ack, .bool x.syn, .bool x.fin, .bool x.rst, .bool x.ha, .int .i64 x.win, .int .i64 x.mss, .bool x.sacks, .slice A x.bl.length c, .string x.s]
def Seg.ok (x : Seg) : Prop := Vld x.fp x.tp x.sq x.ack x.syn x.fin x.rst x.ha x.win x.mss x.sacks x.bl x.s.size
instance (x : Seg) : Decidable x.ok := by unfold Seg.ok; infer_instance
def Seg.bytes (x : Seg) : Int → List UInt8 := sb x.fp x.tp x.sq x.ack x.syn x.fin x.rst x.ha x.win x.mss x.sacks x.bl x.s
def Seg.enc (f d : Int) (x : Seg) : List UInt8 := encOf f d x.bytes
def zeroSeg : Value := .agg #[.int .i64 0, .int .i64 0, .int .i64 0, .int .i64 0, .bool false, .bool false, .bool false, .bool false, .int .i64 0, .int .i64 0, .bool false, .slice none 0 0, .string ⟨#[]⟩]
def many (t : ByteArray) : Nat := (nA t 13 1).toNat
def fl (t : ByteArray) (k : Int) : Bool := bits .and .i64 (nA t 12 1) k != 0
/-- what stands in t -/
def dec (t : ByteArray) : Seg := ⟨nA t 0 2, nA t 2 2, nA t 4 4, nA t 8 4, fl t 1, fl t 2, fl t 4, fl t 8, nA t 14 2, nA t 16 2, fl t 16, blAt t (many t), t.extract (20 + 8 * many t) t.size⟩
def decOk (f d : Int) (t : ByteArray) : Prop := 20 ≤ t.size ∧ rdOk t (many t) ∧ (dec t).ok ∧ (dec t).enc f d = t.data.toList
instance (f d : Int) (t : ByteArray) : Decidable (decOk f d t) := by unfold decOk; infer_instance
theorem nA_bd (t : ByteArray) (a k : Nat) (hk : k ≤ 4) : 0 ≤ nA t a k ∧ nA t a k ≤ 4294967295 := by
  have h := num_bd (bytesAt t a k)
  have hl : (bytesAt t a k).length ≤ k := by unfold bytesAt; rw [List.length_take]; omega
  have : (256 : Int) ^ (bytesAt t a k).length ≤ 4294967296 := (pow_bd _ (by omega)).2
  unfold nA; omega
theorem nA1_bd (t : ByteArray) (a : Nat) : 0 ≤ nA t a 1 ∧ nA t a 1 ≤ 255 := by
  have h := num_bd (bytesAt t a 1)
  have hl : (bytesAt t a 1).length ≤ 1 := by unfold bytesAt; rw [List.length_take]; omega
  have : (256 : Int) ^ (bytesAt t a 1).length ≤ 256 := by
    have : (bytesAt t a 1).length = 0 ∨ (bytesAt t a 1).length = 1 := by omega
    rcases this with e | e <;> rw [e] <;> simp
  unfold nA; omega
theorem many_eq (t : ByteArray) : nA t 13 1 = (many t : Int) := by have := nA1_bd t 13; unfold many; omega
theorem many_le (t : ByteArray) : many t ≤ 255 := by have := nA1_bd t 13; unfold many; omega

theorem read_yes (t : ByteArray) (w : World) (h20 : 20 ≤ t.size) (ht : t.size ≤ 9223372036854775807) (h : rdOk t (many t)) :
    Calls Tryd.prog 38 #[.string t] w fun e w' => ∃ (A : Option Addr) (c : Nat), e = .returned (.tuple #[(dec t).val A c, .bool true]) ∧ Bks w' A (dec t).bl.length (dec t).bl ∧ Below w.heap.size w w' := by
  refine (read_long t _ _ _ _ _ _ _ _ (many t) _ _ _ _ _ w h20 ht (Lib.hid rfl) (Lib.hid rfl) (Lib.hid rfl) (Lib.hid rfl) (Lib.hid rfl) (Lib.hid (many_eq t)) (Lib.hid rfl) (Lib.hid rfl) (Lib.hid rfl) (many_le t) rfl rfl rfl rfl rfl).mono ?_
  rintro e w' (⟨-, A, c, rfl, hb, hB⟩ | ⟨hn, -, -⟩)
  · have hl : (dec t).bl.length = many t := blAt_length _ _
    refine ⟨A, c, ?_, ?_, hB⟩
    · unfold Seg.val; rw [hl]; rfl
    · rw [hl]; exact hb
  · exact absurd h hn
theorem read_no (t : ByteArray) (w : World) (ht : t.size ≤ 9223372036854775807) (h : ¬ (20 ≤ t.size ∧ rdOk t (many t))) :
    Calls Tryd.prog 38 #[.string t] w fun e w' => e = .returned (.tuple #[zeroSeg, .bool false]) ∧ Below w.heap.size w w' := by
  by_cases h20 : 20 ≤ t.size
  · refine (read_long t _ _ _ _ _ _ _ _ (many t) _ _ _ _ _ w h20 ht (Lib.hid rfl) (Lib.hid rfl) (Lib.hid rfl) (Lib.hid rfl) (Lib.hid rfl) (Lib.hid (many_eq t)) (Lib.hid rfl) (Lib.hid rfl) (Lib.hid rfl) (many_le t) rfl rfl rfl rfl rfl).mono ?_
    rintro e w' (⟨hy, -⟩ | ⟨-, rfl, hB⟩)
    · exact absurd ⟨h20, hy⟩ h
    · exact ⟨rfl, hB⟩
  · exact read_short t w (by omega)

/-- Encode of a valid segment, by its fields -/
theorem enc_ok (f d : Int) (x : Seg) (A : Option Addr) (c : Nat) (w : World) (hf : Adr f) (hd : Adr d) (hx : x.ok) (hb : Bks w A x.bl.length x.bl) :
    Calls Tryd.prog 9 #[.int .i64 f, .int .i64 d, x.val A c] w fun e w' => e = .returned (.tuple #[.string ⟨(x.enc f d).toArray⟩, .int .i64 0]) ∧ Below w.heap.size w w' :=
  Encode_ok f d x.fp x.tp x.sq x.ack x.syn x.fin x.rst x.ha x.win x.mss x.sacks A x.bl.length c x.bl x.s w hf hd hx hb
theorem enc_no (f d : Int) (x : Seg) (A : Option Addr) (c : Nat) (w : World) (hn : x.bl.length ≤ 9223372036854775807) (hf : Adr f) (hd : Adr d) (hx : ¬ x.ok) (hb : Bks w A x.bl.length x.bl) :
    Calls Tryd.prog 9 #[.int .i64 f, .int .i64 d, x.val A c] w fun e w' => e = .returned (.tuple #[.string ⟨#[]⟩, .int .i64 110]) ∧ Below w.heap.size w w' :=
  Encode_noseg f d x.fp x.tp x.sq x.ack x.syn x.fin x.rst x.ha x.win x.mss x.sacks A x.bl.length c x.bl x.s w hn hf hd hx hb

theorem Dec_yes (f d : Int) (t : ByteArray) (w : World) (ht : t.size ≤ 9223372036854775807) (hf : Adr f) (hd : Adr d) (h : decOk f d t) :
    Calls Tryd.prog 11 #[.int .i64 f, .int .i64 d, .string t] w fun e w' => ∃ (A : Option Addr) (c : Nat), e = .returned (.tuple #[(dec t).val A c, .int .i64 0]) ∧ Bks w' A (dec t).bl.length (dec t).bl ∧ Below w.heap.size w w' :=
  Decode_yes f d t _ _ _ _ _ _ _ _ _ _ _ _ _ _ w _ hf hd (Lib.hid fun w => read_yes t w h.1 ht h.2.1) (Lib.hid fun A c w hb => enc_ok f d (dec t) A c w hf hd h.2.2.1 hb) (by rw [ByteArray.toList_eq]; exact beq_iff_eq.2 h.2.2.2)
theorem Dec_no (f d : Int) (t : ByteArray) (w : World) (ht : t.size ≤ 9223372036854775807) (hf : Adr f) (hd : Adr d) (h : ¬ decOk f d t) :
    Calls Tryd.prog 11 #[.int .i64 f, .int .i64 d, .string t] w fun e w' => e = .returned (.tuple #[zeroSeg, .int .i64 110]) ∧ Below w.heap.size w w' := by
  by_cases h1 : 20 ≤ t.size ∧ rdOk t (many t)
  · by_cases h2 : (dec t).ok
    · exact Decode_cno f d t _ _ _ _ _ _ _ _ _ _ _ _ _ _ w _ hf hd (Lib.hid fun w => read_yes t w h1.1 ht h1.2) (Lib.hid fun A c w hb => enc_ok f d (dec t) A c w hf hd h2 hb) (by rw [ByteArray.toList_eq]; exact beq_eq_false_iff_ne.2 fun q => h ⟨h1.1, h1.2, h2, q⟩)
    · exact Decode_eno f d t _ _ _ _ _ _ _ _ _ _ _ _ _ _ w hf hd (Lib.hid fun w => read_yes t w h1.1 ht h1.2) (Lib.hid fun A c w hb => enc_no f d (dec t) A c w (by have : (dec t).bl.length = many t := blAt_length _ _; have := many_le t; omega) hf hd h2 hb)
  · exact Decode_rno f d t w hf hd (Lib.hid fun w => read_no t w ht h1)
end Go.Proofs.YtmgjcjacoegocaaDoor.Sg
