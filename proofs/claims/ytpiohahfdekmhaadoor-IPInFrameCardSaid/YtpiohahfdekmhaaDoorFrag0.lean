/-
  Datagrams as plain data, and the fragments of a datagram. No condition.
-/
import Derived.Test.YtpiohahfdekmhaaDoorBase1
namespace Go.Proofs.YtpiohahfdekmhaaDoor.Ip
set_option maxRecDepth 100000
open Go.RowKit Go.Proofs.YtpiohahfdekmhaaDoor.Wire

/-- a datagram -/
structure Pk where
  f : Int
  t : Int
  pr : Int
  ttl : Int
  id : Int
  df : Bool
  mf : Bool
  off : Int
  s : ByteArray
def Pk.cells (p : Pk) : List Value := [.int .i64 p.f, .int .i64 p.t, .int .i64 p.pr, .int .i64 p.ttl, .int .i64 p.id, .bool p.df, .bool p.mf, .int .i64 p.off, .string p.s]
def Pk.val (p : Pk) : Value := .agg #[.int .i64 p.f, .int .i64 p.t, .int .i64 p.pr, .int .i64 p.ttl, .int .i64 p.id, .bool p.df, .bool p.mf, .int .i64 p.off, .string p.s]
/-- the k-th fragment, each but the last with n bytes -/
def pieceAt (p : Pk) (n k : Nat) : Pk :=
  { p with off := p.off + (n * k : Nat), s := p.s.extract (n * k) (min (n * k + n) p.s.size), mf := p.mf || decide (n * k + n < p.s.size) }
def count (p : Pk) (n : Nat) : Nat := (p.s.size + n - 1) / n
def frags (p : Pk) (n k : Nat) : List Pk := (List.range k).map (pieceAt p n)
theorem frags_succ (p : Pk) (n k : Nat) : frags p n (k + 1) = frags p n k ++ [pieceAt p n k] := by simp [frags, List.range_succ]
theorem frags_length (p : Pk) (n k : Nat) : (frags p n k).length = k := by simp [frags]
theorem count_lt (p : Pk) (n k : Nat) (hn : 0 < n) : k < count p n ↔ n * k < p.s.size := by
  unfold count
  rw [Nat.lt_div_iff_mul_lt hn, Nat.mul_comm]; omega
theorem count_eq (p : Pk) (n k : Nat) (hn : 0 < n) (h : p.s.size ≤ n * k) (h' : ∀ j, j < k → n * j < p.s.size) : k = count p n := by
  have h1 : ¬ k < count p n := fun q => by have := (count_lt p n k hn).1 q; omega
  have h2 : ¬ count p n < k := fun q => by
    have := h' _ q
    exact Nat.lt_irrefl _ ((count_lt p n (count p n) hn).2 this)
  omega

theorem count_le (p : Pk) (n : Nat) (hn : 0 < n) : count p n ≤ p.s.size := by
  rcases Nat.lt_or_ge p.s.size (count p n) with h | h
  · have := (count_lt p n _ hn).1 h
    have := Nat.le_mul_of_pos_left p.s.size hn
    omega
  · exact h

/-- what a round keeps: the block B is o -/
def KeepsB (B : Nat) (o : Obj) (W W' : World) : Prop := W.heap[B]? = some o → W'.heap[B]? = some o
theorem keepsB_t {B : Nat} {o : Obj} {X Y Z : World} (h : KeepsB B o X Y) (k : KeepsB B o Y Z) : KeepsB B o X Z := fun x => k (h x)
theorem keepsB_put {B : Nat} {o : Obj} (ho : o.isCells = true) {W : World} {l : Nat} {x x' : Obj} (h : W.heap[l]? = some x) (hx : x.isCells = false) : KeepsB B o W (W.putObj l x') := fun hB => by
  have hne : l ≠ B := by
    rintro rfl
    rw [hB] at h; cases h; rw [ho] at hx; cases hx
  exact (World.putObj_heap_other hne.symm).trans hB
end Go.Proofs.YtpiohahfdekmhaaDoor.Ip
