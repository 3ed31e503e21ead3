/-
  The table of path MTUs behind its pointer; contracts of New, Len, find and Size.
-/
import Derived.Test.YtmcfllogcmnnoaaDoorPath3
namespace Go.Proofs.YtmcfllogcmnnoaaDoor.Ic
set_option maxRecDepth 100000
open Go.RowKit Go.Proofs.YtmcfllogcmnnoaaDoor.Wire

/-- a slice that holds the entries l; row: its block -/
def SlP (row : Option Nat) (A : Option Addr) (c : Nat) (l : List En) (W : World) : Prop := match row with
  | none => A = none ∧ l = [] ∧ c = 0
  | some g => A = some ⟨g, 0, none⟩ ∧ RowP W g c 100 (fun i e => l[i]? = some e) ∧ l.length ≤ c ∧ c ≤ maxLen
theorem SlP.below {row : Option Nat} {A : Option Addr} {c : Nat} {l : List En} {W W' : World} (h : SlP row A c l W) (hb : Below W.heap.size W W') : SlP row A c l W' := by
  cases row with
  | none => exact h
  | some g => exact ⟨h.1, h.2.1.below hb, h.2.2⟩
theorem SlP.lt {row : Option Nat} {A : Option Addr} {c : Nat} {l : List En} {W : World} (h : SlP row A c l W) (g : Nat) (hg : row = some g) : g < W.heap.size := by
  subst hg
  exact h.2.1.lt
theorem SlP.open_ {row : Option Nat} {A : Option Addr} {c : Nat} {l : List En} {W : World} (h : SlP row A c l W) (hl : 0 < l.length) : ∃ g, A = some ⟨g, 0, none⟩ ∧ RowP W g c 100 (fun i e => l[i]? = some e) := by
  cases row with
  | none => obtain ⟨-, rfl, -⟩ := h; simp at hl
  | some g => exact ⟨g, h.1, h.2.1⟩
theorem SlP.keep {row : Option Nat} {A : Option Addr} {c : Nat} {l : List En} {W W' : World} (h : SlP row A c l W) (hk : ∀ g, row = some g → W'.heap[g]? = W.heap[g]?) : SlP row A c l W' := by
  cases row with
  | none => exact h
  | some g =>
    obtain ⟨h1, ⟨cur, h2, h3⟩, h4⟩ := h
    exact ⟨h1, ⟨cur, (hk g rfl).trans h2, h3⟩, h4⟩
/-- the table at B holds the entries l -/
def IsP (row : Option Nat) (B : Nat) (l : List En) (W : World) : Prop := row ≠ some B ∧ ∃ A c, W.heap[B]? = some (.cells #[.slice A l.length c] 97 (0, 0)) ∧ SlP row A c l W
theorem IsP.below {row : Option Nat} {B : Nat} {l : List En} {W W' : World} (h : IsP row B l W) (hb : Below W.heap.size W W') : IsP row B l W' := by
  obtain ⟨h0, A, c, h1, h2⟩ := h
  exact ⟨h0, A, c, bblock hb h1, h2.below hb⟩
theorem IsP.lt {row : Option Nat} {B : Nat} {l : List En} {W : World} (h : IsP row B l W) : B < W.heap.size := by
  obtain ⟨h0, A, c, h1, h2⟩ := h
  exact blk_lt h1
theorem IsP.slice {row : Option Nat} {B : Nat} {l : List En} {W : World} (h : IsP row B l W) : ∃ A c, W.heap[B]? = some (.cells #[.slice A l.length c] 97 (0, 0)) ∧ (0 < l.length → ∃ g, A = some ⟨g, 0, none⟩ ∧ RowP W g c 100 (fun i e => l[i]? = some e)) := by
  obtain ⟨h0, A, c, h1, h2⟩ := h
  exact ⟨A, c, h1, h2.open_⟩
theorem IsP.keep {row : Option Nat} {B : Nat} {l : List En} {W W' : World} (h : IsP row B l W) (hB : W'.heap[B]? = W.heap[B]?) (hk : ∀ g, row = some g → W'.heap[g]? = W.heap[g]?) : IsP row B l W' := by
  obtain ⟨h0, A, c, h1, h2⟩ := h
  exact ⟨h0, A, c, hB.trans h1, h2.keep hk⟩
theorem new_any (w : World) : Calls Tryd.prog 28 #[] w fun e w' => e = .returned (.pointer (some ⟨w.heap.size, 0, none⟩)) ∧ IsP none w.heap.size [] w' ∧ Below w.heap.size w w' ∧ w.heap.size < w'.heap.size := by
  go_enter Tryd.func28, Tryd.ntmps28
  go_wp2_with fail
  go_ret
  exact ⟨rfl, ⟨by simp, none, 0, alloc_new _ _, rfl, rfl, rfl⟩, below_alloc (Below.refl _ _), by simp⟩
theorem plen_any (row : Option Nat) (B : Nat) (l : List En) (w : World) (h : IsP row B l w) : Calls Tryd.prog 32 #[.pointer (some ⟨B, 0, none⟩)] w fun e w' => e = .returned (.int .i64 l.length) ∧ Below w.heap.size w w' := by
  obtain ⟨A, c, hb, -⟩ := h.slice
  have c0 := (cell_of_box hb).1
  clear h hb
  go_enter Tryd.func32, Tryd.ntmps32
  go_wp2_with fail
  go_ret
  exact ⟨rfl, Below.refl _ _⟩
/-- what find answers -/
def fndV (o : Option En) : Value := match o with | some e => enV e | none => .agg #[.int .i64 0, .int .i64 0, .int .i64 0]
theorem infoEn : (Tryd.prog.info? 100).map (·.size) = some 3 := by kernel_rfl
set_option maxHeartbeats 2000000 in
theorem pfind_any (row : Option Nat) (B : Nat) (l : List En) (to : Int) (w : World) (h : IsP row B l w) (hl : l.length ≤ 1000000) : Calls Tryd.prog 59 #[.pointer (some ⟨B, 0, none⟩), .int .i64 to] w fun e w' =>
    e = .returned (.tuple #[fndV (l.find? (toB to)), .bool (l.find? (toB to)).isSome]) ∧ Below w.heap.size w w' := by
  obtain ⟨A, c, hb, hrow⟩ := h.slice
  have HR := Lib.hid hrow
  have c0 := (cell_of_box hb).1
  have c0' := cell_alloc' (.cells #[.int .i64 0, .int .i64 0, .int .i64 0] 100) c0
  have HB := (Below.refl w.heap.size w).alloc (Nat.le_refl _) (.cells #[.int .i64 0, .int .i64 0, .int .i64 0] 100)
  have H4 := Lib.hid (alloc_new w (.cells #[.int .i64 0, .int .i64 0, .int .i64 0] 100))
  clear h hb hrow
  obtain ⟨n, hn⟩ : ∃ n, n = l.length := ⟨_, rfl⟩
  rw [← hn] at hl c0 c0' HR
  have HN := Lib.hid hn; clear hn
  go_enter Tryd.func59, Tryd.ntmps59
  go_wp2_with fail
  go_loopw [7, 13] (fun _ i wr => ∃ k : Nat, k ≤ n ∧ i = .int .i64 (k : Int) ∧ (∀ (j : Nat) (e : En), j < k → l[j]? = some e → toB to e = false) ∧ wr.heap[w.heap.size]? = some (.cells #[.int .i64 0, .int .i64 0, .int .i64 0] 100 (0, 0)) ∧ Below w.heap.size w wr) (fun _ i _ => n - (Go.RowKit.intOf i).toNat)
  case atStart => exact ⟨0, by omega, rfl, fun j e hj => by omega, H4.out, HB⟩
  case round =>
    clear HB H4 c0 c0'
    obtain ⟨k, hk, rfl, hok, h4, HB⟩ := hrel
    have HO := Lib.hid hok; have H4 := Lib.hid h4; clear hok h4
    obtain ⟨⟨q0, q1, q2⟩, z0, z1, z2⟩ := cells3 H4.out
    have l4 := blk_lt H4.out
    by_cases hlt : k < n
    · have k1 : (0 : Int) ≤ (k : Int) := by omega
      have k2 : (k : Int) < (n : Int) := by omega
      obtain ⟨g, rfl, hr⟩ := HR.out (by omega)
      obtain ⟨x, hx⟩ : ∃ x, l[k]? = some x := ⟨l[k]'(by rw [← HN.out]; exact hlt), List.getElem?_eq_getElem _⟩
      obtain ⟨e0, e1, e2⟩ := hr.cells k x hx
      have hgl := hr.lt
      have d0 := (HB.cell (p := ⟨g, k * 3, none⟩) hgl).trans e0
      have d1 := (HB.cell (p := ⟨g, k * 3 + 1, none⟩) hgl).trans e1
      have d2 := (HB.cell (p := ⟨g, k * 3 + 2, none⟩) hgl).trans e2
      have HX := Lib.hid hx; clear hx e0 e1 e2 hr hgl
      by_cases he : x.to = to
      · subst he
        have hf : l.find? (toB x.to) = some x := by
          rw [List.find?_eq_some_iff_getElem]
          obtain ⟨hkl, hxx⟩ := List.getElem?_eq_some_iff.1 HX.out
          refine ⟨by simp [toB], k, hkl, hxx, fun j hj => ?_⟩
          rw [HO.out j _ hj (List.getElem?_eq_getElem (by omega))]; rfl
        have HF := Lib.hid hf; clear hf
        go_wp2_with fail
        have HZ := block_alloc (cells_eq (b := #[.int .i64 x.to, .int .i64 x.size, .int .i64 x.at_]) (block_setCell (k := 2) (v := .int .i64 x.at_) (block_setCell (k := 1) (v := .int .i64 x.size) (block_setCell (k := 0) (v := .int .i64 x.to) H4.out))) rfl) (.cells #[.int .i64 x.to, .int .i64 x.size, .int .i64 x.at_] 100)
        refine bodyPost_ret (v := .tuple #[.agg #[.int .i64 x.to, .int .i64 x.size, .int .i64 x.at_], .bool true]) (res_cell_tmp Tryd.results59 (by exact HZ) rfl Tryd.underlying100 rfl infoEn) rfl ⟨?_, ?_⟩
        · rw [HF.out]; rfl
        · exact below_alloc (Below.setCell (Below.setCell (Below.setCell HB (by simp) _) (by simp) _) (by simp) _)
      · have hne : (x.to == to) = false := beq_eq_false_iff_ne.2 he
        have HE := Lib.hid he; clear he
        go_wp2_with fail
        refine ⟨⟨k + 1, by omega, by go_num, fun j e hj hje => ?_, block_alloc H4.out _, below_alloc HB⟩, by simp [Go.RowKit.intOf]; omega⟩
        rcases Nat.lt_succ_iff_lt_or_eq.1 hj with q | q
        · exact HO.out j e q hje
        · subst q; rw [HX.out] at hje; cases hje; exact decide_eq_false HE.out
    · have HK : Hid (k = n) := Lib.hid (by omega)
      have hz : ¬ (k : Int) < (n : Int) := by omega
      have hf : l.find? (toB to) = none := by
        rw [List.find?_eq_none]
        intro e he
        obtain ⟨j, hj⟩ := List.getElem?_of_mem he
        rw [HO.out j e (by rw [HK.out, HN.out]; exact (List.getElem?_eq_some_iff.1 hj).1) hj]; decide
      have HF := Lib.hid hf; clear hf
      go_wp2_with fail
      have HZ := cells_eq (b := #[.int .i64 0, .int .i64 0, .int .i64 0]) (block_setCell (k := 2) (v := .int .i64 0) (block_setCell (k := 1) (v := .int .i64 0) (block_setCell (k := 0) (v := .int .i64 0) H4.out))) rfl
      refine bodyPost_ret (v := .tuple #[.agg #[.int .i64 0, .int .i64 0, .int .i64 0], .bool false]) (res_cell_tmp Tryd.results59 (by exact HZ) rfl Tryd.underlying100 rfl infoEn) rfl ⟨?_, ?_⟩
      · rw [HF.out]; rfl
      · exact Below.setCell (Below.setCell (Below.setCell HB (by simp) _) (by simp) _) (by simp) _
end Go.Proofs.YtmcfllogcmnnoaaDoor.Ic
