/-
  The reference of chapter 7: a half whose end is not known; whole.
-/
import Derived.Test.YtmeldgnjgogacaaReR1
namespace Go.Proofs.Ytmeldgnjgogacaa.Re
set_option maxRecDepth 100000
open Go.RowKit Go.Proofs.Ytmeldgnjgogacaa.Wire
open Go.Proofs.Ytmeldgnjgogacaa.Ip (Pk vlenB VLen)

/-- a half whose end is not known: its block, its bytes, its marks -/
structure RH (lo : Nat) (p : Pk) (now : Int) (hb gb gt : Nat) (F : Pk) (has : Bool) (by_ : List UInt8) (hv : List Bool) (W : World) : Prop where
  h : W.heap[hb]? = some (.cells #[.int .i64 p.f, .int .i64 p.t, .int .i64 p.pr, .int .i64 0, .int .i64 p.id, .bool false, .bool false, .int .i64 0, .string ⟨#[]⟩, .int .i64 now, .slice (some ⟨gb, 0, none⟩) 4000 4000, .slice (some ⟨gt, 0, none⟩) 4000 4000, .int .i64 (-1), .int .i64 F.f, .int .i64 F.t, .int .i64 F.pr, .int .i64 F.ttl, .int .i64 F.id, .bool F.df, .bool F.mf, .int .i64 F.off, .string F.s, .bool has, .bool false] 89)
  b : W.heap[gb]? = some (.cells (by_.map fun x => Value.int .u8 ((x.toNat : Nat) : Int)).toArray 5 (0, 0))
  t : W.heap[gt]? = some (.cells (hv.map Value.bool).toArray 4 (0, 0))
  ne : lo ≤ hb ∧ lo ≤ gb ∧ lo ≤ gt ∧ hb ≠ gb ∧ hb ≠ gt ∧ gb ≠ gt
  len : by_.length = 4000 ∧ hv.length = 4000
theorem RH0.rh {lo : Nat} {p : Pk} {now : Int} {hb gb gt : Nat} {W : World} (h : RH0 lo p now hb gb gt W) : RH lo p now hb gb gt pk0 false (List.replicate 4000 0) (List.replicate 4000 false) W :=
  ⟨h.h, by rw [List.map_replicate]; exact h.b, by rw [List.map_replicate]; exact h.t, h.ne, List.length_replicate, List.length_replicate⟩
theorem rwhole_no (lo : Nat) (p : Pk) (now : Int) (hb gb gt : Nat) (F : Pk) (has : Bool) (by_ : List UInt8) (hv : List Bool) (w : World) (h : RH lo p now hb gb gt F has by_ hv w) :
    Calls Try.prog 44 #[.pointer (some ⟨hb, 0, none⟩)] w fun x w' => x = .returned (.bool false) ∧ Below w.heap.size w w' := by
  have e12 := (cell_of_block (k := 12) h.h rfl).1
  clear h
  go_enter Try.func44, Try.ntmps44
  go_wp2_with fail
  go_loopw [3] (fun i wr => i = .int .i64 0 ∧ wr = w) (fun _ _ => 0)
  case atStart => exact ⟨rfl, rfl⟩
  case round =>
    obtain ⟨rfl, rfl⟩ := hrel
    go_wp2_with fail
    go_ret
    exact ⟨rfl, Below.refl _ _⟩
end Go.Proofs.Ytmeldgnjgogacaa.Re
