/-
  The table with the blocks that it owns: New, Sizes; the law's helper put.
-/
import Derived.Test.YtmeldgnjgogacaaReTop
import Derived.Test.YtmeldgnjgogacaaReSizes
namespace Go.Proofs.Ytmeldgnjgogacaa.Re
set_option maxRecDepth 100000
open Go.RowKit Go.Proofs.Ytmeldgnjgogacaa.Wire
open Go.Proofs.Ytmeldgnjgogacaa.Ip (Pk vlenB)

def sumA (A : List (Ky × Hf)) : Int := (A.map fun x => x.2.cnt).foldr (· + ·) 0
theorem sumC_abs (L : List En) : sumC L = sumA (abs L) := by unfold sumC sumA abs; rw [List.map_map]; rfl
def NewTT (w : World) (x : Ending) (w' : World) : Prop := ∃ T S, x = .returned (.pointer (some ⟨T, 0, none⟩)) ∧ TT w' T [] S ∧ Below w.heap.size w w' ∧ ∀ q, S q → w.heap.size ≤ q
theorem new_tt (w : World) : Calls Try.prog 13 #[] w (NewTT w) := by
  refine (new_tab w).mono ?_
  rintro x w' ⟨T, m, clk, rfl, h1, h2, h3, h4⟩
  refine ⟨T, fun q => TOwn T m none [] q, rfl, ⟨⟨m, #[], clk, none, 0, [], h1, fun e he => by simp at he, rfl, fun q hq => hq⟩, fun q hq => h1.lt hq, fun x hx => by simp at hx⟩, h2, ?_⟩
  rintro q (r | r | ⟨a, r, -⟩ | ⟨e, r, -⟩)
  · omega
  · omega
  · cases r
  · simp at r
theorem sizes_tt (T : Nat) (A : List (Ky × Hf)) (S : Nat → Prop) (w : World) (h : TT w T A S) (hl : A.length ≤ 1000) :
    Calls Try.prog 23 #[.pointer (some ⟨T, 0, none⟩)] w fun x w' => x = .returned (.tuple #[.int .i64 (A.length : Int), .int .i64 (sumA A)]) ∧ Below w.heap.size w w' := by
  obtain ⟨m, es, clk, O, oc, L, h1, h2, h3, h4⟩ := h.tab
  have e1 : A.length = L.length := by rw [← h3]; simp [abs]
  have e2 : sumA A = sumC L := by rw [← h3, sumC_abs]
  rw [e1, e2]
  exact sizes_tab T m es clk O oc L w h1 h2 (by omega)
/-- what put says -/
def putS (r : List (Ky × Hf) × Pk × Bool × Int) : ByteArray := if r.2.2.2 ≠ 0 then ⟨#[33]⟩ else if r.2.2.1 = true then r.2.1.s else ⟨#[45]⟩
def PutSW (S : Nat → Prop) (w : World) (T : Nat) (r : List (Ky × Hf) × Pk × Bool × Int) (x : Ending) (w' : World) : Prop :=
  x = .returned (.string (putS r)) ∧ ∃ S' : Nat → Prop, TT w' T r.1 S' ∧ Chg S w w' ∧ ∀ q, S' q → S q ∨ w.heap.size ≤ q
set_option maxHeartbeats 4000000 in
theorem put_law (T : Nat) (A : List (Ky × Hf)) (S : Nat → Prop) (now : Int) (p : Pk) (w : World) (h : TT w T A S) (hs : p.s.size ≤ 9223372036854775807) (hL : A.length < 8 ∨ keyOf p ∈ A.map (·.1)) (hl9 : A.length ≤ 900) (hnow : In64 now) :
    Calls Try.prog 24 #[.pointer (some ⟨T, 0, none⟩), .int .i64 now, .agg #[.int .i64 p.f, .int .i64 p.t, .int .i64 p.pr, .int .i64 p.ttl, .int .i64 p.id, .bool p.df, .bool p.mf, .int .i64 p.off, .string p.s]] w (PutSW S w T (putA A now p)) := by
  have HP := Lib.hid fun W hW => put_any T A S now p W hW hs hL hl9 hnow
  have HT := Lib.hid (h.below ((Below.refl w.heap.size w).alloc (Nat.le_refl _) (.cells #[.int .i64 p.f, .int .i64 p.t, .int .i64 p.pr, .int .i64 p.ttl, .int .i64 p.id, .bool p.df, .bool p.mf, .int .i64 p.off, .string p.s] 30)))
  have HSL := Lib.hid h.lt
  have q0 := alloc_new w (.cells #[.int .i64 p.f, .int .i64 p.t, .int .i64 p.pr, .int .i64 p.ttl, .int .i64 p.id, .bool p.df, .bool p.mf, .int .i64 p.off, .string p.s] 30)
  have HQ := Lib.hid q0; clear q0 h
  obtain ⟨⟨A', q, b, e⟩, hr⟩ : ∃ r, putA A now p = r := ⟨_, rfl⟩
  rw [hr] at HP ⊢
  clear hr
  go_enter Try.func24, Try.ntmps24
  have qQ0 := (cell_of_block (k := 0) HQ.out rfl).1; have zQ0 := (cell_of_block (k := 0) HQ.out rfl).2; have qQ1 := (cell_of_block (k := 1) HQ.out rfl).1; have zQ1 := (cell_of_block (k := 1) HQ.out rfl).2; have qQ2 := (cell_of_block (k := 2) HQ.out rfl).1; have zQ2 := (cell_of_block (k := 2) HQ.out rfl).2; have qQ3 := (cell_of_block (k := 3) HQ.out rfl).1; have zQ3 := (cell_of_block (k := 3) HQ.out rfl).2; have qQ4 := (cell_of_block (k := 4) HQ.out rfl).1; have zQ4 := (cell_of_block (k := 4) HQ.out rfl).2; have qQ5 := (cell_of_block (k := 5) HQ.out rfl).1; have zQ5 := (cell_of_block (k := 5) HQ.out rfl).2; have qQ6 := (cell_of_block (k := 6) HQ.out rfl).1; have zQ6 := (cell_of_block (k := 6) HQ.out rfl).2; have qQ7 := (cell_of_block (k := 7) HQ.out rfl).1; have zQ7 := (cell_of_block (k := 7) HQ.out rfl).2; have qQ8 := (cell_of_block (k := 8) HQ.out rfl).1; have zQ8 := (cell_of_block (k := 8) HQ.out rfl).2; have lt_Q := blk_lt HQ.out
  go_wp2_with fail
  refine (HP.out _ HT.out).mono ?_
  rintro x w1 ⟨rfl, S', hT', hC, hS'⟩
  unfold PutRes PkV
  dsimp only at hT' hC hS' ⊢
  have HB0 := (Below.refl w.heap.size w).alloc (Nat.le_refl _) (.cells #[.int .i64 p.f, .int .i64 p.t, .int .i64 p.pr, .int .i64 p.ttl, .int .i64 p.id, .bool p.df, .bool p.mf, .int .i64 p.off, .string p.s] 30)
  have HF : Hid (∃ S' : Nat → Prop, TT (w1.alloc (.cells #[.int .i64 q.f, .int .i64 q.t, .int .i64 q.pr, .int .i64 q.ttl, .int .i64 q.id, .bool q.df, .bool q.mf, .int .i64 q.off, .string q.s] 30)) T A' S' ∧ Chg S w (w1.alloc (.cells #[.int .i64 q.f, .int .i64 q.t, .int .i64 q.pr, .int .i64 q.ttl, .int .i64 q.id, .bool q.df, .bool q.mf, .int .i64 q.off, .string q.s] 30)) ∧ ∀ q, S' q → S q ∨ w.heap.size ≤ q) :=
    Lib.hid ⟨S', hT'.below ((Below.refl _ _).alloc (Nat.le_refl _) _), ((Chg.of_below HB0).trans hC (fun i hi => .inl hi)).alloc _, fun q hq => (hS' q hq).imp id (fun r => by simp at r; omega)⟩
  have HN := Lib.hid (alloc_new w1 (.cells #[.int .i64 q.f, .int .i64 q.t, .int .i64 q.pr, .int .i64 q.ttl, .int .i64 q.id, .bool q.df, .bool q.mf, .int .i64 q.off, .string q.s] 30))
  clear hT' hC hS' HB0
  clear qQ0 zQ0 qQ1 zQ1 qQ2 zQ2 qQ3 zQ3 qQ4 zQ4 qQ5 zQ5 qQ6 zQ6 qQ7 zQ7 qQ8 zQ8 lt_Q
  generalize hw1 : w1.alloc (.cells #[.int .i64 q.f, .int .i64 q.t, .int .i64 q.pr, .int .i64 q.ttl, .int .i64 q.id, .bool q.df, .bool q.mf, .int .i64 q.off, .string q.s] 30) = w2 at HN HF
  have q8 := (cell_of_block (k := 8) HN.out rfl).1
  by_cases he : e = 0
  · have h1 : (e != 0) = false := by simp [he]
    have HE := Lib.hid he; clear he
    cases b with
    | true =>
      go_wp2_with fail
      go_ret
      refine ⟨?_, HF.out⟩
      unfold putS
      rw [if_neg (by simpa using HE.out), if_pos rfl]; rfl
    | false =>
      go_wp2_with fail
      go_ret
      refine ⟨?_, HF.out⟩
      unfold putS
      rw [if_neg (by simpa using HE.out), if_neg (by simp)]; rfl
  · have h1 : (e != 0) = true := by simp [he]
    have HE := Lib.hid he; clear he
    go_wp2_with fail
    go_ret
    refine ⟨?_, HF.out⟩
    unfold putS
    rw [if_pos (by simpa using HE.out)]; rfl
end Go.Proofs.Ytmeldgnjgogacaa.Re
