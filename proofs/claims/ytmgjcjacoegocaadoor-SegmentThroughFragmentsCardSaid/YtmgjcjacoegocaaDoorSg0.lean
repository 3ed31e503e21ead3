/-
  Segments as plain data, what makes them valid, and their blocks in memory. No condition.
-/
import Derived.Test.YtmgjcjacoegocaaDoorRows
import Derived.Test.YtmgjcjacoegocaaDoorBase1
import Derived.Test.YtmgjcjacoegocaaDoorPlain
namespace Go.Proofs.YtmgjcjacoegocaaDoor.Sg
set_option maxRecDepth 100000
open Go.RowKit Go.Proofs.YtmgjcjacoegocaaDoor.Wire

def Adr (a : Int) : Prop := 0 ≤ a ∧ a ≤ 4294967295
instance (a : Int) : Decidable (Adr a) := by unfold Adr; infer_instance
def adrB (a : Int) : Bool := decide (Adr a)
/-- ports, numbers and window -/
def VN (fp tp sq ack : Int) (ha : Bool) (win : Int) : Prop := (1 ≤ fp ∧ fp ≤ 65535) ∧ (1 ≤ tp ∧ tp ≤ 65535) ∧ (0 ≤ sq ∧ sq ≤ 4294967295) ∧ (0 ≤ ack ∧ ack ≤ 4294967295) ∧ (ha = false → ack = 0) ∧ (0 ≤ win ∧ win ≤ 65535)
instance (fp tp sq ack : Int) (ha : Bool) (win : Int) : Decidable (VN fp tp sq ack ha win) := by unfold VN; infer_instance
def vnB (fp tp sq ack : Int) (ha : Bool) (win : Int) : Bool := decide (VN fp tp sq ack ha win)
/-- flags and the options of a SYN -/
def VF (syn fin rst : Bool) (mss : Int) (sacks : Bool) : Prop := (syn = true → fin = false ∧ rst = false) ∧ (fin = true → rst = false) ∧ (syn = false → mss = 0 ∧ sacks = false) ∧ (mss = 0 ∨ (28 ≤ mss ∧ mss ≤ 1024))
instance (syn fin rst : Bool) (mss : Int) (sacks : Bool) : Decidable (VF syn fin rst mss sacks) := by unfold VF; infer_instance
def vfB (syn fin rst : Bool) (mss : Int) (sacks : Bool) : Bool := decide (VF syn fin rst mss sacks)
/-- a block -/
def B1 (x : Int × Int) : Prop := (0 ≤ x.1 ∧ x.1 ≤ 4294967295) ∧ (0 ≤ x.2 ∧ x.2 ≤ 4294967295) ∧ x.1 ≠ x.2
instance (x : Int × Int) : Decidable (B1 x) := by unfold B1; infer_instance
def VB (ha : Bool) (bl : List (Int × Int)) : Prop := (bl.length ≤ 3 ∧ (ha = false → bl.length = 0)) ∧ ∀ (k : Nat) (x : Int × Int), bl[k]? = some x → B1 x
theorem VB_iff (ha : Bool) (bl : List (Int × Int)) : VB ha bl ↔ ((bl.length ≤ 3 ∧ (ha = false → bl.length = 0)) ∧ ∀ x ∈ bl, B1 x) := by
  unfold VB
  refine and_congr Iff.rfl ⟨fun h x hx => ?_, fun h k x hk => h x (List.mem_of_getElem? hk)⟩
  obtain ⟨k, hk⟩ := List.getElem?_of_mem hx
  exact h k x hk
instance (ha : Bool) (bl : List (Int × Int)) : Decidable (VB ha bl) := decidable_of_iff' _ (VB_iff ha bl)
def vbB (ha : Bool) (bl : List (Int × Int)) : Bool := decide (VB ha bl)
/-- the payload's length -/
def VS (syn rst : Bool) (n k : Nat) : Prop := if syn || rst then n = 0 else n + 8 * k ≤ 1024
instance (syn rst : Bool) (n k : Nat) : Decidable (VS syn rst n k) := by unfold VS; infer_instance
def Vld (fp tp sq ack : Int) (syn fin rst ha : Bool) (win mss : Int) (sacks : Bool) (bl : List (Int × Int)) (n : Nat) : Prop :=
  VN fp tp sq ack ha win ∧ VF syn fin rst mss sacks ∧ VB ha bl ∧ VS syn rst n bl.length
instance (fp tp sq ack : Int) (syn fin rst ha : Bool) (win mss : Int) (sacks : Bool) (bl : List (Int × Int)) (n : Nat) : Decidable (Vld fp tp sq ack syn fin rst ha win mss sacks bl n) := by unfold Vld; infer_instance
def vldB (fp tp sq ack : Int) (syn fin rst ha : Bool) (win mss : Int) (sacks : Bool) (bl : List (Int × Int)) (n : Nat) : Bool := decide (Vld fp tp sq ack syn fin rst ha win mss sacks bl n)

/-- the cells of blocks, one behind the other -/
def spCells (l : List (Int × Int)) : List Value := l.flatMap fun x => [.int .i64 x.1, .int .i64 x.2]
theorem spCells_length (l : List (Int × Int)) : (spCells l).length = l.length * 2 := by
  unfold spCells
  induction l with
  | nil => rfl
  | cons a l ih => simp [ih]; omega
theorem spCells_snoc (l : List (Int × Int)) (x : Int × Int) : spCells (l ++ [x]) = spCells l ++ [.int .i64 x.1, .int .i64 x.2] := by simp [spCells]
theorem spCells_get : ∀ (l : List (Int × Int)) (i : Nat) (x : Int × Int), l[i]? = some x → (spCells l)[i * 2]? = some (.int .i64 x.1) ∧ (spCells l)[i * 2 + 1]? = some (.int .i64 x.2)
  | [], i, x, h => by simp at h
  | a :: l, 0, x, h => by simp at h; subst h; simp [spCells]
  | a :: l, i + 1, x, h => by
    have := spCells_get l i x (by simpa using h)
    have e : spCells (a :: l) = .int .i64 a.1 :: .int .i64 a.2 :: spCells l := rfl
    rw [e]
    have e1 : (i + 1) * 2 = i * 2 + 1 + 1 := by omega
    rw [e1]
    simpa using this
/-- block g holds the blocks l -/
def SpRow (W : World) (g : Nat) (l : List (Int × Int)) : Prop := ∃ cur, W.heap[g]? = some (.cells cur 73 (0, 0)) ∧ cur.toList.take (l.length * 2) = spCells l
theorem SpRow.lt {W : World} {g : Nat} {l : List (Int × Int)} (h : SpRow W g l) : g < W.heap.size := by obtain ⟨cur, h, -⟩ := h; exact blk_lt h
theorem SpRow.belowB {W w1 : World} {g B : Nat} {l : List (Int × Int)} (hb : Below B W w1) (hg : g < B) (h : SpRow W g l) : SpRow w1 g l := by obtain ⟨cur, h, k⟩ := h; exact ⟨cur, (hb.block g hg).trans h, k⟩
theorem SpRow.below {W w1 : World} {g : Nat} {l : List (Int × Int)} (hb : Below W.heap.size W w1) (h : SpRow W g l) : SpRow w1 g l := h.belowB hb h.lt
theorem SpRow.alloc {W : World} {g : Nat} {l : List (Int × Int)} (h : SpRow W g l) (o : Obj) : SpRow (W.alloc o) g l := by obtain ⟨cur, h, k⟩ := h; exact ⟨cur, block_alloc h o, k⟩
theorem SpRow.cells {W : World} {g : Nat} {l : List (Int × Int)} (h : SpRow W g l) (i : Nat) (x : Int × Int) (hx : l[i]? = some x) :
    W.cell? ⟨g, i * 2, none⟩ = some (.int .i64 x.1) ∧ W.cell? ⟨g, i * 2 + 1, none⟩ = some (.int .i64 x.2) := by
  obtain ⟨cur, h, k⟩ := h
  have hi : i < l.length := by
    rcases Nat.lt_or_ge i l.length with c | c
    · exact c
    · rw [List.getElem?_eq_none c] at hx; cases hx
  obtain ⟨h1, h2⟩ := spCells_get l i x hx
  rw [← k, List.getElem?_take_of_lt (by omega)] at h1 h2
  exact ⟨by simp [World.cell?, h]; simpa using h1, by simp [World.cell?, h]; simpa using h2⟩
/-- the slice at A of n elements holds the blocks l -/
def Bks (W : World) (A : Option Addr) (n : Nat) (l : List (Int × Int)) : Prop := l.length = n ∧ (0 < n → ∃ g, A = some ⟨g, 0, none⟩ ∧ SpRow W g l)
theorem Bks.below {W w1 : World} {A : Option Addr} {n : Nat} {l : List (Int × Int)} (h : Bks W A n l) (hb : Below W.heap.size W w1) : Bks w1 A n l :=
  ⟨h.1, fun hn => by obtain ⟨g, e, hr⟩ := h.2 hn; exact ⟨g, e, hr.below hb⟩⟩
theorem Bks.alloc {W : World} {A : Option Addr} {n : Nat} {l : List (Int × Int)} (h : Bks W A n l) (o : Obj) : Bks (W.alloc o) A n l :=
  ⟨h.1, fun hn => by obtain ⟨g, e, hr⟩ := h.2 hn; exact ⟨g, e, hr.alloc o⟩⟩
theorem Bks.drew {W : World} {A : Option Addr} {n : Nat} {l : List (Int × Int)} (h : Bks W A n l) : Bks W.drew A n l := h
theorem Bks.at_ {W : World} {A : Option Addr} {n : Nat} {l : List (Int × Int)} (h : Bks W A n l) (k : Nat) (hk : k < n) :
    ∃ g a b, A = some ⟨g, 0, none⟩ ∧ l[k]? = some (a, b) ∧ g < W.heap.size ∧ W.cell? ⟨g, k * 2, none⟩ = some (.int .i64 a) ∧ W.cell? ⟨g, k * 2 + 1, none⟩ = some (.int .i64 b) := by
  obtain ⟨g, e, hr⟩ := h.2 (by omega)
  have hkl : k < l.length := by rw [h.1]; exact hk
  have hx : l[k]? = some l[k] := List.getElem?_eq_getElem hkl
  obtain ⟨h1, h2⟩ := hr.cells k _ hx
  exact ⟨g, l[k].1, l[k].2, e, hx, hr.lt, h1, h2⟩
theorem bks_nil (W : World) (A : Option Addr) : Bks W A 0 [] := ⟨rfl, fun h => absurd h (by omega)⟩
theorem bks_own {W : World} {base : Nat} {v : Value} {l : List (Int × Int)} (h : W.ownsRow base 73 2 v l.length (spCells l)) : ∃ A cap, v = .slice A l.length cap ∧ Bks W A l.length l ∧ (0 < l.length → ∃ g, A = some ⟨g, 0, none⟩ ∧ base ≤ g) := by
  rcases h.2 with ⟨hv, h0⟩ | ⟨g, cap, cur, hv, hb, hg, -, -, -, hk⟩
  · have hl : l.length = 0 := by simpa using h0
    exact ⟨none, 0, by rw [hl]; exact hv, ⟨rfl, fun h => by omega⟩, fun h => by omega⟩
  · exact ⟨_, cap, hv, ⟨rfl, fun _ => ⟨g, rfl, cur, hg, hk⟩⟩, fun _ => ⟨g, rfl, hb⟩⟩
theorem bks_own' {W : World} {base n : Nat} {v : Value} {l : List (Int × Int)} (hn : l.length = n) (h : W.ownsRow base 73 2 v n (spCells l)) : ∃ A cap, v = .slice A n cap ∧ Bks W A n l ∧ (0 < n → ∃ g, A = some ⟨g, 0, none⟩ ∧ base ≤ g) := by
  subst hn; exact bks_own h
theorem Bks.set {W : World} {A : Option Addr} {n base : Nat} {l : List (Int × Int)} (h : Bks W A n l) (hA : 0 < n → ∃ g, A = some ⟨g, 0, none⟩ ∧ base ≤ g) {p : Addr} (hp : p.block < base) (u : Value) : Bks (W.setCell p u) A n l :=
  ⟨h.1, fun hn => by
    obtain ⟨g, e, cur, hr, hc⟩ := h.2 hn
    obtain ⟨g', e', hb⟩ := hA hn
    have : g' = g := by rw [e] at e'; simpa using e'.symm
    subst this
    exact ⟨g', e, cur, block_set_other hr (by omega), hc⟩⟩
theorem keep_far {W W' : World} {base b n sz : Nat} {e : TypeId} {v : Value} {xs : List Value} {o x : Obj} (hrow : W.ownsRow base e sz v n xs) (hg : (W.alloc o).grownBy W' v.ownBlock) (h : W.heap[b]? = some x) (hlt : b < base) : W'.heap[b]? = some x :=
  (hg.block b (blk_lt (block_alloc h o)) (fun q => by have := (hrow.lt _ q.symm).1; omega)).trans (block_alloc h o)
end Go.Proofs.YtmgjcjacoegocaaDoor.Sg
