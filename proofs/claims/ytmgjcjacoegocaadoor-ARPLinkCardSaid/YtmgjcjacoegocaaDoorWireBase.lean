/-
  Plain bytes (big-endian numbers) and two facts on memory that the contracts of package wire use. No condition.
-/
import Derived.WalkKit
import Derived.WalkSpells
import Derived.WalkLawsBesides
import Derived.Laws.CopyRow
import Derived.Laws.BytesArg
import Derived.Lib.BufferWrite
import Derived.RegionTactic
import Derived.Lib.Hide
namespace Go.Proofs.YtmgjcjacoegocaaDoor.Wire
set_option maxRecDepth 100000
open Go.RowKit

theorem ret_int {k : IntKind} {a b : Int} (h : a = b) : Ending.returned (.int k a) = .returned (.int k b) := by rw [h]
theorem ret_bool {a b : Bool} (h : a = b) : Ending.returned (.bool a) = .returned (.bool b) := by rw [h]

/-- the byte of n -/
def byte (n : Int) : UInt8 := UInt8.ofNat (n % 256).toNat
/-- n in k bytes, big-endian -/
def be : Nat → Int → List UInt8
  | 0, _ => []
  | k + 1, n => be k (n / 256) ++ [byte n]
theorem be_length (k : Nat) (n : Int) : (be k n).length = k := by
  induction k generalizing n with
  | zero => rfl
  | succ k ih => simp [be, ih]
theorem byte_toNat (n : Int) : ((byte n).toNat : Int) = n % 256 := by
  unfold byte
  rw [UInt8.toNat_ofNat']
  omega
/-- the number that bytes hold, big-endian -/
def num (l : List UInt8) : Int := l.foldl (fun a b => a * 256 + b.toNat) 0
def S (l : List UInt8) : Value := .string ⟨l.toArray⟩
def cellsOf (l : List UInt8) : List Value := l.map fun b => Value.int .u8 (b.toNat : Int)

theorem heap_new2 (w : World) (A B : Obj) : ((w.alloc A).alloc B).heap[w.heap.size + 1]? = some B := by
  show ((w.heap.push A).push B)[w.heap.size + 1]? = _
  rw [Array.getElem?_push, if_pos (by simp)]
theorem heap_new1 (w : World) (A B : Obj) : ((w.alloc A).alloc B).heap[w.heap.size]? = some A := by
  show ((w.heap.push A).push B)[w.heap.size]? = _
  simp [Array.getElem?_push]
theorem setRow_new (w : World) (A : Obj) (cur arr : Array Value) (e : TypeId) :
    ((w.alloc A).alloc (.cells cur e)).setRow (w.heap.size + 1) arr = (w.alloc A).alloc (.cells arr e) := by
  unfold World.setRow
  show World.mk (((w.heap.push A).push (.cells cur e)).modify (w.heap.size + 1) _) _ _ _ _ = World.mk ((w.heap.push A).push (.cells arr e)) _ _ _ _
  congr 1
  apply Array.ext
  · simp
  · intro i h1 h2
    rw [Array.getElem_modify]
    by_cases hi : w.heap.size + 1 = i
    · subst hi; simp [Array.getElem_push]
    · have : i < w.heap.size + 1 := by simp at h2; omega
      simp [hi, Array.getElem_push, this]
/-- copy of k cells out of block w.heap.size, from place off on, into the new block behind it -/
theorem copy_new {P : Program} (w : World) (dT ty elem t : TypeId) (X cur : Array Value) (off k : Nat) (hu : P.underlying dT = some (.slice elem)) (hs : (P.info? elem).map (·.size) = some 1)
    (hX : off + k = X.size) (hc : cur.size = k) (h1 : ∀ v ∈ X, v.oneCell' = true) :
    (Builtin.copy_ #[dT, dT] ty #[.slice (some ⟨w.heap.size + 1, 0, none⟩) k k, .slice (some ⟨w.heap.size, off, none⟩) k k]).run P ((w.alloc (.cells X t)).alloc (.cells cur elem)) =
      .ok (goInt k) ((w.alloc (.cells X t)).alloc (.cells (X.toList.drop off).toArray elem)) := by
  have hl : (X.toList.drop off).length = k := by simp; omega
  have := run_copy_row (P := P) ((w.alloc (.cells X t)).alloc (.cells cur elem)) dT dT ty elem (w.heap.size + 1) 0 k k ⟨w.heap.size, off, none⟩ k k cur elem (X.toList.drop off) hu hs ?_ ?_ ?_ ?_ ?_
  · rw [this, hl, setRow_new]
    have : List.drop (0 + k) cur.toList = [] := List.drop_eq_nil_of_le (by simp; omega)
    rw [this]; simp
  · exact heap_new2 _ _ _
  · rw [hl]; simp
  · intro j v hj
    have ha : (⟨w.heap.size, off, none⟩ : Addr).add j = ⟨w.heap.size, off + j, none⟩ := by unfold Addr.add; split <;> simp_all
    rw [ha]
    simp only [World.cell?, heap_new1]
    rw [List.getElem?_drop] at hj
    simpa using hj
  · simp; omega
  · intro v hv
    exact h1 v (by have := List.mem_of_mem_drop hv; simpa using this)

theorem setRow_new1 (w : World) (cur arr : Array Value) (e : TypeId) :
    (w.alloc (.cells cur e)).drew.setRow w.heap.size arr = (w.alloc (.cells arr e)).drew := by
  unfold World.setRow
  show World.mk ((w.heap.push (.cells cur e)).modify w.heap.size _) _ _ _ _ = World.mk (w.heap.push (.cells arr e)) _ _ _ _
  congr 1
  apply Array.ext
  · simp
  · intro i h1 h2
    rw [Array.getElem_modify]
    by_cases hi : w.heap.size = i
    · subst hi; simp [Array.getElem_push]
    · have : i < w.heap.size := by simp at h2; omega
      simp [hi, Array.getElem_push, this]
/-- copy of a string of k bytes to the end of a new block, behind a draw -/
theorem copy_str {P : Program} (w : World) (dT sT ty elem t : TypeId) (cur : Array Value) (off k : Nat) (s : ByteArray) (hu : P.underlying dT = some (.slice elem)) (hs : (P.info? elem).map (·.size) = some 1)
    (hk : s.size = k) (hc : off + k = cur.size) :
    (Builtin.copy_ #[dT, sT] ty #[.slice (some ⟨w.heap.size, off, none⟩) k k, .string s]).run P (w.alloc (.cells cur t)).drew =
      .ok (goInt k) (w.alloc (.cells (cur.toList.take off ++ cellsOf s.data.toList).toArray t)).drew := by
  have := Lib.run_copy_row_string (P := P) (w.alloc (.cells cur t)).drew dT sT ty elem w.heap.size off k k s cur t hu hs (by show (w.heap.push _)[w.heap.size]? = _; simp) (by omega) (by omega)
  rw [this, hk, setRow_new1]
  have : List.drop (off + k) cur.toList = [] := List.drop_eq_nil_of_le (by simp; omega)
  rw [this, List.append_nil]
  rfl

theorem wrap_nat (m : Nat) (h : m < 2 ^ 63) : IntKind.i64.wrap (m : Int) = m := by
  rw [IntKind.wrap_i64]; omega
theorem ofInt_toNat (x : Nat) (hx : x < 2 ^ 63) : (BitVec.ofInt 64 (x : Int)).toNat = x := by
  rw [BitVec.toNat_ofInt]; omega
theorem bits_or (x y : Nat) (hx : x < 2 ^ 63) (hy : y < 2 ^ 63) : bits .or .i64 (x : Int) (y : Int) = ((x ||| y : Nat) : Int) := by
  unfold bits
  show IntKind.i64.wrap ((BitVec.ofInt 64 (x : Int) ||| BitVec.ofInt 64 (y : Int)).toNat : Int) = _
  rw [BitVec.toNat_or, ofInt_toNat x hx, ofInt_toNat y hy, wrap_nat _ (Nat.or_lt_two_pow hx hy)]
theorem bits_and (x y : Nat) (hx : x < 2 ^ 63) (hy : y < 2 ^ 63) : bits .and .i64 (x : Int) (y : Int) = ((x &&& y : Nat) : Int) := by
  unfold bits
  show IntKind.i64.wrap ((BitVec.ofInt 64 (x : Int) &&& BitVec.ofInt 64 (y : Int)).toNat : Int) = _
  rw [BitVec.toNat_and, ofInt_toNat x hx, ofInt_toNat y hy, wrap_nat _ (Nat.and_lt_two_pow _ hy)]
theorem bits_xor (x y : Nat) (hx : x < 2 ^ 63) (hy : y < 2 ^ 63) : bits .xor .i64 (x : Int) (y : Int) = ((x ^^^ y : Nat) : Int) := by
  unfold bits
  show IntKind.i64.wrap ((BitVec.ofInt 64 (x : Int) ^^^ BitVec.ofInt 64 (y : Int)).toNat : Int) = _
  rw [BitVec.toNat_xor, ofInt_toNat x hx, ofInt_toNat y hy, wrap_nat _ (Nat.xor_lt_two_pow hx hy)]
/-- 'x | y' where x is a multiple of 2^k and y is smaller than that -/
theorem bits_or_add (k : Nat) (x y : Int) (a : Int) (ha : 0 ≤ a) (hx : x = 2 ^ k * a) (hy : 0 ≤ y) (hy' : y < 2 ^ k) (hl : x < 2 ^ 63) (hly : y < 2 ^ 63) : bits .or .i64 x y = x + y := by
  obtain ⟨a, rfl⟩ := Int.eq_ofNat_of_zero_le ha
  obtain ⟨y, rfl⟩ := Int.eq_ofNat_of_zero_le hy
  have hx2 : x = ((2 ^ k * a : Nat) : Int) := by rw [hx]; simp
  subst hx2
  have hy2 : y < 2 ^ k := by
    have : (y : Int) < ((2 ^ k : Nat) : Int) := by simpa using hy'
    exact Int.ofNat_lt.1 this
  rw [bits_or _ _ (by omega) (by omega), ← Nat.two_pow_add_eq_or_of_lt hy2]
  omega
theorem or_bytes (a b c d : Int) (ha : 0 ≤ a ∧ a ≤ 255) (hb : 0 ≤ b ∧ b ≤ 255) (hc : 0 ≤ c ∧ c ≤ 255) (hd : 0 ≤ d ∧ d ≤ 255) :
    bits .or .i64 (bits .or .i64 (bits .or .i64 (a * 16777216) (b * 65536)) (c * 256)) d = a * 16777216 + b * 65536 + c * 256 + d := by
  rw [bits_or_add 24 (a * 16777216) (b * 65536) a ha.1 (by omega) (by omega) (by omega) (by omega) (by omega)]
  rw [bits_or_add 16 (a * 16777216 + b * 65536) (c * 256) (a * 256 + b) (by omega) (by omega) (by omega) (by omega) (by omega) (by omega)]
  rw [bits_or_add 8 (a * 16777216 + b * 65536 + c * 256) d (a * 65536 + b * 256 + c) (by omega) (by omega) (by omega) (by omega) (by omega) (by omega)]
theorem u8_bd (b : UInt8) : 0 ≤ (b.toNat : Int) ∧ (b.toNat : Int) ≤ 255 := by have := b.toNat_lt; omega
theorem ret2_int {k : IntKind} {a b : Int} {v : Value} (h : a = b) : Ending.returned (.tuple #[.int k a, v]) = .returned (.tuple #[.int k b, v]) := by rw [h]
end Go.Proofs.YtmgjcjacoegocaaDoor.Wire
