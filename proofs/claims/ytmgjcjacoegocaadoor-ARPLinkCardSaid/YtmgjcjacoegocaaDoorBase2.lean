/-
  A builder that lies in a block of its own, by the bytes that it holds; wire.Put and wire.Get at a width that is a letter.
-/
import Derived.Test.YtmgjcjacoegocaaDoorBuilder
import Derived.Test.YtmgjcjacoegocaaDoorBase1
import Derived.Test.YtmgjcjacoegocaaDoorCheck
import Derived.Test.YtmgjcjacoegocaaDoorWire
namespace Go.Proofs.YtmgjcjacoegocaaDoor.Wire
set_option maxRecDepth 100000
open Go.RowKit

/-- the builder in block b holds the bytes l; its row lies from block B on -/
def IsB (B b : Nat) (l : List UInt8) (W : World) : Prop := Lib.IsBuilder 144 5 B b (Lib.byteCells l) W
theorem grown_of_below {W W' : World} (hb : Below W.heap.size W W') : W.grownBy W' none := ⟨hb.os, hb.tape, hb.output, hb.size, fun i hi _ => hb.block i hi⟩
theorem builderAt_below {T e : TypeId} {B b : Nat} {p : Value} {bs : List Value} {W W' : World} (h : Lib.BuilderAt T e B b p bs W) (hb : Below W.heap.size W W') : Lib.BuilderAt T e B b p bs W' := by
  obtain ⟨hB, v, hk, hown, hne⟩ := h
  exact ⟨hB, v, bblock hb hk, hown.kept (grown_of_below hb) (by cases v.ownBlock <;> simp), hne⟩
theorem isB_below {B b : Nat} {l : List UInt8} {W W' : World} (h : IsB B b l W) (hb : Below W.heap.size W W') : IsB B b l W' := by
  rcases h with h | h
  · exact .inl (builderAt_below h hb)
  · exact .inr (builderAt_below h hb)
theorem isB_alloc {B b : Nat} {l : List UInt8} {W : World} (h : IsB B b l W) (o : Obj) : IsB B b l (W.alloc o) := isB_below h ((Below.refl _ _).alloc (Nat.le_refl _) o)
theorem isB_drew {B b : Nat} {l : List UInt8} {W : World} (h : IsB B b l W) : IsB B b l W.drew := h
theorem isB_new (W : World) : IsB W.heap.size W.heap.size [] (W.alloc (.cells #[.pointer none, .slice none 0 0] 144)) := Lib.fresh_isBuilder _ _ W
theorem isB_lt {B b : Nat} {l : List UInt8} {W : World} (h : IsB B b l W) : b < W.heap.size := by
  rcases h with h | h
  · exact h.lt
  · exact h.lt
theorem isB_le {B b : Nat} {l : List UInt8} {W : World} (h : IsB B b l W) : B ≤ b := by
  rcases h with h | h
  · exact h.1
  · exact h.1
theorem bwrite_any (B b : Nat) (l : List UInt8) (s : ByteArray) (w : World) (h : IsB B b l w) (hlen : l.length + s.size ≤ 1000000) :
    Calls Tryd.prog 66 #[.pointer (some ⟨b, 0, none⟩), .string s] w fun e w' => e = .returned (.tuple #[.int .i64 s.size, .nilIface]) ∧ IsB B b (l ++ s.data.toList) w' ∧ Below B w w' := by
  have hlt := isB_lt h
  have hle := isB_le h
  refine (Bld.write_any B b (Lib.byteCells l) s w h (by rw [Lib.byteCells_length]; omega) (by omega)).mono ?_
  rintro e w' ⟨rfl, h1, h2⟩
  refine ⟨rfl, ?_, h2⟩
  have : Lib.byteCells (l ++ s.data.toList) = Lib.byteCells l ++ Lib.strCells s := by simp [Lib.byteCells, Lib.strCells]
  unfold IsB; rw [this]; exact h1
theorem bstring_any (B b : Nat) (l : List UInt8) (w : World) (h : IsB B b l w) :
    Calls Tryd.prog 68 #[.pointer (some ⟨b, 0, none⟩)] w fun e w' => e = .returned (.string ⟨l.toArray⟩) ∧ Below B w w' :=
  Tryd.Builder_String_any B b l w h (by have := isB_lt h; have := isB_le h; omega)

theorem put_okI (n b : Int) (w : World) (h1 : 1 ≤ b) (h4 : b ≤ 4) (h0 : 0 ≤ n) (hn : n < 256 ^ b.toNat) :
    Calls Tryd.prog 70 #[.int .i64 n, .int .i64 b] w fun e w' => e = .returned (.tuple #[.string ⟨(be b.toNat n).toArray⟩, .int .i64 0]) ∧ Below w.heap.size w w' := by
  have hb : b = 1 ∨ b = 2 ∨ b = 3 ∨ b = 4 := by omega
  rcases hb with rfl | rfl | rfl | rfl
  · exact put1 n w h0 (by simpa using hn)
  · exact put2 n w h0 (by simpa using hn)
  · exact put3 n w h0 (by simpa using hn)
  · exact put4 n w h0 (by simpa using hn)
end Go.Proofs.YtmgjcjacoegocaaDoor.Wire
