/-
  Frames as plain data: their encoding, what a string must meet to be one, and that no string one byte away from an encoding does.
-/
import Derived.Test.YtpiohahfdekmhaaDoorLkCrc0
import Derived.Test.YtpiohahfdekmhaaDoorPlain
namespace Go.Proofs.YtpiohahfdekmhaaDoor.Lk
set_option maxRecDepth 100000
open Go.RowKit Go.Proofs.YtpiohahfdekmhaaDoor.Wire

def FrOk (to fm kd n : Int) : Prop := (1 ≤ to ∧ to ≤ 65535) ∧ (1 ≤ fm ∧ fm ≤ 65534) ∧ (kd = 1 ∨ kd = 2) ∧ n ≤ 1024
instance (to fm kd n : Int) : Decidable (FrOk to fm kd n) := by unfold FrOk; infer_instance
def frOkB (to fm kd n : Int) : Bool := decide (FrOk to fm kd n)
def fhead (to fm kd n : Int) : List UInt8 := be 2 to ++ (be 2 fm ++ (be 1 kd ++ be 2 n))
theorem fhead_length (to fm kd n : Int) : (fhead to fm kd n).length = 7 := by simp [fhead, be_length]
def fbody (to fm kd : Int) (s : List UInt8) : List UInt8 := fhead to fm kd s.length ++ s
/-- the encoding of a frame -/
def fenc (to fm kd : Int) (s : List UInt8) : List UInt8 := fbody to fm kd s ++ be 4 (crc (fbody to fm kd s))
theorem fbody_length (to fm kd : Int) (s : List UInt8) : (fbody to fm kd s).length = 7 + s.length := by simp [fbody, fhead_length]
theorem fenc_length (to fm kd : Int) (s : List UInt8) : (fenc to fm kd s).length = 11 + s.length := by
  unfold fenc; rw [List.length_append, fbody_length, be_length]; omega
/-- the number in n bytes from a on -/
def nm (l : List UInt8) (a n : Nat) : Int := num ((l.drop a).take n)
theorem nm_bd (l : List UInt8) (a n : Nat) : 0 ≤ nm l a n ∧ nm l a n < 256 ^ n := by
  have h := num_bd ((l.drop a).take n)
  have h2 : ((l.drop a).take n).length ≤ n := List.length_take_le _ _
  have h3 : (256 : Int) ^ ((l.drop a).take n).length ≤ 256 ^ n := by
    have := Nat.pow_le_pow_right (n := 256) (by omega) h2
    have e : ∀ k : Nat, (256 : Int) ^ k = ((256 ^ k : Nat) : Int) := fun k => by simp
    rw [e, e]; omega
  unfold nm; omega
/-- the string is the encoding of a valid frame -/
def Dk (l : List UInt8) : Prop := (l.length : Int) = 11 + nm l 5 2 ∧ FrOk (nm l 0 2) (nm l 2 2) (nm l 4 1) (nm l 5 2) ∧ nm l (l.length - 4) 4 = (crc (l.take (l.length - 4)) : Int)
theorem nm_skip (p l : List UInt8) (a n : Nat) (h : p.length ≤ a) : nm (p ++ l) a n = nm l (a - p.length) n := by
  unfold nm
  rw [List.drop_append, List.drop_eq_nil_of_le h, List.nil_append]
theorem nm_here (k : Nat) (n : Int) (l : List UInt8) (h0 : 0 ≤ n) (h1 : n < 256 ^ k) : nm (be k n ++ l) 0 k = n := by
  unfold nm
  rw [List.drop_zero, List.take_append_of_le_length (by rw [be_length]; exact Nat.le_refl _), List.take_of_length_le (by rw [be_length]; exact Nat.le_refl _)]
  exact num_be k n h0 h1
theorem fenc_shape (to fm kd : Int) (s : List UInt8) : fenc to fm kd s = be 2 to ++ (be 2 fm ++ (be 1 kd ++ (be 2 (s.length : Int) ++ (s ++ be 4 (crc (fbody to fm kd s)))))) := by
  unfold fenc
  conv => lhs; arg 1; unfold fbody fhead
  simp [List.append_assoc]
theorem fenc_fields (to fm kd : Int) (s : List UInt8) (h : FrOk to fm kd s.length) :
    nm (fenc to fm kd s) 0 2 = to ∧ nm (fenc to fm kd s) 2 2 = fm ∧ nm (fenc to fm kd s) 4 1 = kd ∧ nm (fenc to fm kd s) 5 2 = s.length ∧
    nm (fenc to fm kd s) (7 + s.length) 4 = crc (fbody to fm kd s) ∧ (fenc to fm kd s).take (7 + s.length) = fbody to fm kd s ∧ ((fenc to fm kd s).drop 7).take s.length = s := by
  obtain ⟨⟨h1, h2⟩, ⟨h3, h4⟩, h5, h6⟩ := h
  have hc := crc_lt (fbody to fm kd s)
  have hl := fbody_length to fm kd s
  refine ⟨?_, ?_, ?_, ?_, ?_, ?_, ?_⟩
  · rw [fenc_shape]; exact nm_here 2 to _ (by omega) (by omega)
  · rw [fenc_shape, nm_skip _ _ _ _ (by rw [be_length]; omega), be_length]; exact nm_here 2 fm _ (by omega) (by omega)
  · rw [fenc_shape, nm_skip _ _ _ _ (by rw [be_length]; omega), nm_skip _ _ _ _ (by rw [be_length, be_length]; omega), be_length, be_length]; exact nm_here 1 kd _ (by omega) (by omega)
  · rw [fenc_shape, nm_skip _ _ _ _ (by rw [be_length]; omega), nm_skip _ _ _ _ (by rw [be_length, be_length]; omega), nm_skip _ _ _ _ (by rw [be_length, be_length, be_length]; omega), be_length, be_length, be_length]
    exact nm_here 2 _ _ (by omega) (by omega)
  · unfold fenc
    rw [nm_skip _ _ _ _ (by omega), hl, show 7 + s.length - (7 + s.length) = 0 from by omega, ← List.append_nil (be 4 _)]
    exact nm_here 4 _ _ (by omega) (by omega)
  · unfold fenc
    rw [List.take_append_of_le_length (by omega), List.take_of_length_le (by omega)]
  · unfold fenc
    rw [List.drop_append_of_le_length (by omega)]
    unfold fbody
    rw [List.drop_append, List.drop_eq_nil_of_le (by rw [fhead_length]; omega), List.nil_append, fhead_length, List.drop_zero, List.take_append_of_le_length (by omega), List.take_of_length_le (by omega)]
theorem fenc_dk (to fm kd : Int) (s : List UInt8) (h : FrOk to fm kd s.length) : Dk (fenc to fm kd s) := by
  obtain ⟨e1, e2, e3, e4, e5, e6, -⟩ := fenc_fields to fm kd s h
  have hl := fenc_length to fm kd s
  have h4 : (fenc to fm kd s).length - 4 = 7 + s.length := by omega
  unfold Dk
  rw [e1, e2, e3, e4, h4, e5, e6]
  exact ⟨by omega, h, rfl⟩
theorem num_inj (l m : List UInt8) (hl : l.length = m.length) (h : num l = num m) : l = m := by
  rw [← be_num l, ← be_num m, h, hl]
theorem nm_out (l : List UInt8) (a n k : Nat) (v : UInt8) (h : k < a ∨ a + n ≤ k) : nm (l.set k v) a n = nm l a n := by
  unfold nm
  rw [List.drop_set]
  split
  · rfl
  · rw [List.take_set_of_le (by omega)]
theorem nm_in (l : List UInt8) (a n k : Nat) (v : UInt8) (h : a ≤ k ∧ k < a + n) (hk : k < l.length) (hv : v ≠ l[k]) : nm (l.set k v) a n ≠ nm l a n := by
  unfold nm
  intro e
  have e2 := num_inj _ _ (by simp) e
  have e3 : ∀ m : List UInt8, ((m.drop a).take n)[k - a]? = m[k]? := fun m => by
    rw [List.getElem?_take_of_lt (by omega), List.getElem?_drop]
    congr 1; omega
  have e4 := congrArg (fun m => m[k - a]?) e2
  replace e4 : ((l.set k v).drop a |>.take n)[k - a]? = ((l.drop a).take n)[k - a]? := e4
  rw [e3, e3, List.getElem?_set_self hk, List.getElem?_eq_getElem hk] at e4
  exact hv (Option.some.inj e4)
/-- a string one byte away from an encoding is none -/
theorem dk_flip (l : List UInt8) (h : Dk l) (k : Nat) (v : UInt8) (hk : k < l.length) (hv : v ≠ l[k]) : ¬ Dk (l.set k v) := by
  rintro ⟨g1, -, g3⟩
  obtain ⟨h1, -, h3⟩ := h
  have hb := nm_bd l 5 2
  rw [List.length_set] at g1 g3
  by_cases c : 5 ≤ k ∧ k < 7
  · exact nm_in l 5 2 k v (by omega) hk hv (by omega)
  · by_cases c2 : k < l.length - 4
    · rw [nm_out _ _ _ _ _ (.inl c2), h3, List.take_set] at g3
      have := crc_set (l.take (l.length - 4)) k v (by rw [List.length_take]; omega) (by rw [List.getElem_take]; exact hv)
      omega
    · have := nm_in l (l.length - 4) 4 k v (by omega) hk hv
      rw [List.take_set_of_le (by omega)] at g3
      exact this (g3.trans h3.symm)
end Go.Proofs.YtpiohahfdekmhaaDoor.Lk
