/-
  The reference of chapter 7, first part: old, four, New.
-/
import Derived.Test.YtmeldgnjgogacaaReTick
import Derived.Test.YtmeldgnjgogacaaRePut
namespace Go.Proofs.Ytmeldgnjgogacaa.Re
set_option maxRecDepth 100000
open Go.RowKit Go.Proofs.Ytmeldgnjgogacaa.Wire
open Go.Proofs.Ytmeldgnjgogacaa.Ip (Pk vlenB VLen)

theorem rold_any (now t : Int) (w : World) (h1 : -9223372036854775808 ≤ now ∧ now ≤ 9223372036854775807) (h2 : -9223372036854775808 ≤ t ∧ t ≤ 9223372036854775807) :
    Calls Try.prog 46 #[.int .i64 now, .int .i64 t, .int .i64 30] w fun x w' => x = .returned (.bool (decide (t ≤ now ∧ 30 ≤ now - t))) ∧ Below w.heap.size w w' := by
  go_enter Try.func46, Try.ntmps46
  by_cases ht : t < now
  · have d1 : decide (t < now) = true := decide_eq_true ht
    have d2 := age_eq now t h1 h2 (by omega)
    by_cases h3 : now - t < 30
    · have d3 : decide (30 ≤ IntKind.u64.wrap (IntKind.u64.wrap now - IntKind.u64.wrap t)) = false := by rw [d2]; exact decide_eq_false (by omega)
      have e : decide (t ≤ now ∧ 30 ≤ now - t) = false := decide_eq_false (by omega)
      rw [e]
      clear d2 e ht h3
      go_wp2_with fail
      go_ret
      exact ⟨rfl, Below.refl _ _⟩
    · have d3 : decide (30 ≤ IntKind.u64.wrap (IntKind.u64.wrap now - IntKind.u64.wrap t)) = true := by rw [d2]; exact decide_eq_true (by omega)
      have e : decide (t ≤ now ∧ 30 ≤ now - t) = true := decide_eq_true (by omega)
      rw [e]
      clear d2 e ht h3
      go_wp2_with fail
      go_ret
      exact ⟨rfl, Below.refl _ _⟩
  · have d1 : decide (t < now) = false := decide_eq_false ht
    have e : decide (t ≤ now ∧ 30 ≤ now - t) = false := decide_eq_false (by omega)
    rw [e]
    clear e ht
    go_wp2_with fail
    go_ret
    exact ⟨rfl, Below.refl _ _⟩
theorem rnew_any (w : World) : Calls Try.prog 14 #[] w fun x w' => x = .returned (.pointer (some ⟨w.heap.size, 0, none⟩)) ∧ w'.heap[w.heap.size]? = some (.cells #[.slice none 0 0] 75) ∧ Below w.heap.size w w' := by
  go_enter Try.func14, Try.ntmps14
  go_wp2_with fail
  go_ret
  exact ⟨rfl, alloc_new _ _, (Below.refl _ _).alloc (Nat.le_refl _) _⟩
theorem rfour_any (p : Pk) (w : World) : Calls Try.prog 63 #[.agg #[.int .i64 p.f, .int .i64 p.t, .int .i64 p.pr, .int .i64 p.ttl, .int .i64 p.id, .bool p.df, .bool p.mf, .int .i64 p.off, .string p.s]] w fun x w' => x = .returned (.agg #[.int .i64 p.f, .int .i64 p.t, .int .i64 p.pr, .int .i64 0, .int .i64 p.id, .bool false, .bool false, .int .i64 0, .string ⟨#[]⟩]) ∧ Below w.heap.size w w' := by
  have HP := Lib.hid (block_alloc (alloc_new w (.cells #[.int .i64 p.f, .int .i64 p.t, .int .i64 p.pr, .int .i64 p.ttl, .int .i64 p.id, .bool p.df, .bool p.mf, .int .i64 p.off, .string p.s] 30)) (.cells #[.int .i64 0, .int .i64 0, .int .i64 0, .int .i64 0, .int .i64 0, .bool false, .bool false, .int .i64 0, .string ⟨#[]⟩] 30))
  have HR := Lib.hid (alloc_new' (w.alloc (.cells #[.int .i64 p.f, .int .i64 p.t, .int .i64 p.pr, .int .i64 p.ttl, .int .i64 p.id, .bool p.df, .bool p.mf, .int .i64 p.off, .string p.s] 30)) (.cells #[.int .i64 0, .int .i64 0, .int .i64 0, .int .i64 0, .int .i64 0, .bool false, .bool false, .int .i64 0, .string ⟨#[]⟩] 30) (w.heap.size + 1) (by simp))
  have HB := Lib.hid (below_alloc (o := .cells #[.int .i64 0, .int .i64 0, .int .i64 0, .int .i64 0, .int .i64 0, .bool false, .bool false, .int .i64 0, .string ⟨#[]⟩] 30) (below_alloc (o := .cells #[.int .i64 p.f, .int .i64 p.t, .int .i64 p.pr, .int .i64 p.ttl, .int .i64 p.id, .bool p.df, .bool p.mf, .int .i64 p.off, .string p.s] 30) (Below.refl w.heap.size w)))
  go_enter Try.func63, Try.ntmps63
  go_upto_region 1 with fail
  generalize (w.alloc (.cells #[.int .i64 p.f, .int .i64 p.t, .int .i64 p.pr, .int .i64 p.ttl, .int .i64 p.id, .bool p.df, .bool p.mf, .int .i64 p.off, .string p.s] 30)).alloc (.cells #[.int .i64 0, .int .i64 0, .int .i64 0, .int .i64 0, .int .i64 0, .bool false, .bool false, .int .i64 0, .string ⟨#[]⟩] 30) = w1 at *
  have qP0 := (cell_of_block (k := 0) HP.out rfl).1; have zP0 := (cell_of_block (k := 0) HP.out rfl).2; have qP1 := (cell_of_block (k := 1) HP.out rfl).1; have zP1 := (cell_of_block (k := 1) HP.out rfl).2; have qP2 := (cell_of_block (k := 2) HP.out rfl).1; have zP2 := (cell_of_block (k := 2) HP.out rfl).2; have qP3 := (cell_of_block (k := 3) HP.out rfl).1; have zP3 := (cell_of_block (k := 3) HP.out rfl).2; have qP4 := (cell_of_block (k := 4) HP.out rfl).1; have zP4 := (cell_of_block (k := 4) HP.out rfl).2; have qP5 := (cell_of_block (k := 5) HP.out rfl).1; have zP5 := (cell_of_block (k := 5) HP.out rfl).2; have qP6 := (cell_of_block (k := 6) HP.out rfl).1; have zP6 := (cell_of_block (k := 6) HP.out rfl).2; have qP7 := (cell_of_block (k := 7) HP.out rfl).1; have zP7 := (cell_of_block (k := 7) HP.out rfl).2; have qP8 := (cell_of_block (k := 8) HP.out rfl).1; have zP8 := (cell_of_block (k := 8) HP.out rfl).2; have lt_P := blk_lt HP.out
  have qR0 := (cell_of_block (k := 0) HR.out rfl).1; have zR0 := (cell_of_block (k := 0) HR.out rfl).2; have qR1 := (cell_of_block (k := 1) HR.out rfl).1; have zR1 := (cell_of_block (k := 1) HR.out rfl).2; have qR2 := (cell_of_block (k := 2) HR.out rfl).1; have zR2 := (cell_of_block (k := 2) HR.out rfl).2; have qR3 := (cell_of_block (k := 3) HR.out rfl).1; have zR3 := (cell_of_block (k := 3) HR.out rfl).2; have qR4 := (cell_of_block (k := 4) HR.out rfl).1; have zR4 := (cell_of_block (k := 4) HR.out rfl).2; have qR5 := (cell_of_block (k := 5) HR.out rfl).1; have zR5 := (cell_of_block (k := 5) HR.out rfl).2; have qR6 := (cell_of_block (k := 6) HR.out rfl).1; have zR6 := (cell_of_block (k := 6) HR.out rfl).2; have qR7 := (cell_of_block (k := 7) HR.out rfl).1; have zR7 := (cell_of_block (k := 7) HR.out rfl).2; have qR8 := (cell_of_block (k := 8) HR.out rfl).1; have zR8 := (cell_of_block (k := 8) HR.out rfl).2; have lt_R := blk_lt HR.out
  go_wp2_with fail
  have HZ := stN_all [.int .i64 p.f, .int .i64 p.t, .int .i64 p.pr, .int .i64 0, .int .i64 p.id, .bool false, .bool false, .int .i64 0, .string ⟨#[]⟩] HR.out rfl
  refine bodyPost_ret (v := .agg #[.int .i64 p.f, .int .i64 p.t, .int .i64 p.pr, .int .i64 0, .int .i64 p.id, .bool false, .bool false, .int .i64 0, .string ⟨#[]⟩]) (res_cell1 Try.results63 (by exact HZ) rfl Try.underlying30 rfl infoPkt) rfl ?_
  exact ⟨rfl, stN_below (by simp) [.int .i64 p.f, .int .i64 p.t, .int .i64 p.pr, .int .i64 0, .int .i64 p.id, .bool false, .bool false, .int .i64 0, .string ⟨#[]⟩] _ 0 HB.out⟩
end Go.Proofs.Ytmeldgnjgogacaa.Re
