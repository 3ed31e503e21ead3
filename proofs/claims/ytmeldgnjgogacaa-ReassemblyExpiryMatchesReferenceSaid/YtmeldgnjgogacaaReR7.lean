/-
  The reference of chapter 7: Sizes at a table with one half or none.
-/
import Derived.Test.YtmeldgnjgogacaaReR6
namespace Go.Proofs.Ytmeldgnjgogacaa.Re
set_option maxRecDepth 100000
open Go.RowKit Go.Proofs.Ytmeldgnjgogacaa.Wire
open Go.Proofs.Ytmeldgnjgogacaa.Ip (Pk vlenB VLen)

theorem rsizes_none (T : Nat) (w : World) (hT : RNone T w) :
    Calls Try.prog 47 #[.pointer (some ⟨T, 0, none⟩)] w fun x w' => x = .returned (.tuple #[.int .i64 0, .int .i64 0]) ∧ Below w.heap.size w w' := by
  have qT := (cell_of_block (k := 0) hT rfl).1
  clear hT
  go_enter Try.func47, Try.ntmps47
  go_wp2_with fail
  go_loopw [4, 5] (fun b i wr => i = .int .i64 0 ∧ b = .int .i64 0 ∧ wr = w) (fun _ _ _ => 0)
  case atStart => exact ⟨rfl, rfl, rfl⟩
  case round =>
    obtain ⟨rfl, rfl, rfl⟩ := hrel
    go_wp2_with fail
    go_ret2
    exact ⟨rfl, Below.refl _ _⟩
set_option maxHeartbeats 8000000 in
theorem rsizes_one (lo T : Nat) (p : Pk) (bg : Int) (F : Pk) (has : Bool) (o n : Nat) (w : World) (hu : ROne lo T p bg F has (marks o n) w) (hon : o + n ≤ 4000) :
    Calls Try.prog 47 #[.pointer (some ⟨T, 0, none⟩)] w fun x w' => x = .returned (.tuple #[.int .i64 1, .int .i64 (n : Int)]) ∧ Below w.heap.size w w' := by
  obtain ⟨hb, gb, gt, gl, c, by_, hh, hT, hrow, -⟩ := hu
  have HH := Lib.hid hh; have HT := Lib.hid hT; have HROW := Lib.hid hrow
  clear hh hT hrow
  go_enter Try.func47, Try.ntmps47
  have qT := (cell_of_block (k := 0) HT.out rfl).1
  go_wp2_with fail
  go_loopw [4, 5] (fun b i wr => (i = .int .i64 0 ∧ b = .int .i64 0 ∧ wr = w) ∨ (i = .int .i64 1 ∧ b = .int .i64 (n : Int) ∧ wr = w)) (fun _ i _ => 1 - (Go.RowKit.intOf i).toNat)
  case atStart => exact .inl ⟨rfl, rfl, rfl⟩
  case round =>
    rcases hrel with ⟨rfl, rfl, rfl⟩ | ⟨rfl, rfl, rfl⟩
    · obtain ⟨w, rfl⟩ : ∃ wo : World, wo = wr := ⟨_, rfl⟩
      have qr : w.cell? ⟨gl, 0, none⟩ = some (.pointer (some ⟨hb, 0, none⟩)) := World.ownsRow.cells HROW.out rfl 0 _ rfl
      have q11 := (cell_of_block (k := 11) HH.out.h rfl).1; have q23 := (cell_of_block (k := 23) HH.out.h rfl).1
      go_wp2_with fail
      go_loopw [4, 6] (fun b k wr => ∃ j : Nat, j ≤ 4000 ∧ k = .int .i64 (j : Int) ∧ b = .int .i64 ((min (j - o) n : Nat) : Int) ∧ wr = w) (fun _ k _ => 4000 - (Go.RowKit.intOf k).toNat)
      case atStart => exact ⟨0, by omega, rfl, by simp, rfl⟩
      case round =>
        obtain ⟨j, hj, rfl, rfl, rfl⟩ := hrel
        obtain ⟨w, rfl⟩ : ∃ wo : World, wo = wr := ⟨_, rfl⟩
        by_cases hlt : j < 4000
        · have d1 : decide ((j : Int) < 4000) = true := decide_eq_true (by omega)
          have k0 : (0 : Int) ≤ (j : Int) := by omega
          have k1 : (j : Int) < 4000 := by omega
          obtain ⟨M, hM⟩ : ∃ M, min (j - o) n = M := ⟨_, rfl⟩
          have hM4 : M ≤ 4000 := by omega
          by_cases hin : o ≤ j ∧ j < o + n
          · have m1 := (cell_of_block (k := j) (v := .bool true) HH.out.t (by rw [List.getElem?_toArray, List.getElem?_map, marks_at _ _ _ hlt, decide_eq_true hin]; rfl)).1
            have hM2 : min (j + 1 - o) n = M + 1 := by omega
            have HM := Lib.hid hM; have HM2 := Lib.hid hM2
            rw [hM]
            clear hM hM2 hin
            go_wp2_with fail
            exact ⟨⟨j + 1, by omega, by go_num, by rw [HM2.out]; go_num, by trivial⟩, by simp [Go.RowKit.intOf]; omega⟩
          · have m1 := (cell_of_block (k := j) (v := .bool false) HH.out.t (by rw [List.getElem?_toArray, List.getElem?_map, marks_at _ _ _ hlt, decide_eq_false hin]; rfl)).1
            have hM2 : min (j + 1 - o) n = M := by omega
            have HM := Lib.hid hM; have HM2 := Lib.hid hM2
            rw [hM]
            clear hM hM2 hin
            go_wp2_with fail
            exact ⟨⟨j + 1, by omega, by go_num, by rw [HM2.out], by trivial⟩, by simp [Go.RowKit.intOf]; omega⟩
        · have d1 : decide ((j : Int) < 4000) = false := decide_eq_false (by omega)
          have hM : min (j - o) n = n := by omega
          rw [hM]
          clear hM
          go_wp2_with fail
          exact ⟨.inr (by simp), by simp [Go.RowKit.intOf]⟩
    · go_wp2_with fail
      go_ret2
      exact ⟨rfl, Below.refl _ _⟩
end Go.Proofs.Ytmeldgnjgogacaa.Re
