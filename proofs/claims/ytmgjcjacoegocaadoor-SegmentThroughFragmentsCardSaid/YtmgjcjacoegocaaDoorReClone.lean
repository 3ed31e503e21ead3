/-
  The contract of slices.Clone at keys.
-/
import Derived.Test.YtmgjcjacoegocaaDoorReM
import Derived.OwnWalk
namespace Go.Proofs.YtmgjcjacoegocaaDoor.Re
set_option maxRecDepth 100000
open Go.RowKit Go.Proofs.YtmgjcjacoegocaaDoor.Wire

theorem slNil (w : World) : (binOp .eql 157 (.slice none 0 0) (.slice none 0 0)).run Tryd.prog w = .ok (.bool true) w := by kernel_rfl
theorem slSome (a : Addr) (n c : Nat) (w : World) : (binOp .eql 157 (.slice (some a) n c) (.slice none 0 0)).run Tryd.prog w = .ok (.bool false) w := by kernel_rfl
/-- a clone: nil, or a row of its own -/
def ClonePost (w : World) (n : Nat) (ks : List Ky) (x : Ending) (w' : World) : Prop := ∃ v, x = .returned v ∧ w'.ownsRow w.heap.size 168 4 v n (enCells ks) ∧ Below w.heap.size w w'
set_option maxHeartbeats 2000000 in
theorem clone_any (O : Option Addr) (n c : Nat) (ks : List Ky) (w : World) (h : Ord w O n c ks) (hn : n ≤ 1000) :
    Calls Tryd.prog 108 #[.slice O n c] w (ClonePost w n ks) := by
  rcases h with ⟨rfl, rfl, rfl, rfl⟩ | ⟨g, rfl, hr, hk, hc1, hc2⟩
  · have HB := Lib.hid (Below.refl w.heap.size w)
    have hq := slNil
    go_enter Tryd.func108, Tryd.ntmps108
    go_wp2_with fail
    go_ret
    exact ⟨_, rfl, ⟨rfl, .inl ⟨rfl, rfl⟩⟩, HB.out⟩
  · obtain ⟨i0, hi, hz0, hz1, hz2⟩ := info_parts infoKy
    have hown := ord_owns (.inr ⟨g, rfl, hr, hk, hc1, hc2⟩ : Ord w (some ⟨g, 0, none⟩) n c ks)
    have hcells : ∀ j u, (enCells ks)[j]? = some u → w.cell? ((⟨g, 0, none⟩ : Addr).add j) = some u := World.ownsRow.cells hown rfl
    have hl : (enCells ks).length = n * 4 := by rw [enCells_length, hk]
    have H1 := Lib.hid hcells; have H2 := Lib.hid hl; have H3 := Lib.hid hi
    clear hcells hl hown hr hk hi
    have HX : Hid ((w.alloc (.cells #[] 168)).ownsRow w.heap.size 168 4 (.slice (some ⟨w.heap.size, 0, none⟩) 0 0) 0 []) := Lib.hid (World.ownsRow_made w #[] 0 (Nat.le_refl _) (by unfold maxLen; omega) rfl)
    have HY : Hid (∀ j u, (enCells ks)[j]? = some u → (w.alloc (.cells #[] 168)).cell? ((⟨g, 0, none⟩ : Addr).add j) = some u) := Lib.hid fun j u q => cell_alloc' _ (H1.out j u q)
    have HB := Lib.hid (below_alloc (o := .cells #[] 168) (Below.refl w.heap.size w))
    have hq := slSome ⟨g, 0, none⟩ n c
    go_enter Tryd.func108, Tryd.ntmps108
    go_wp2_with (at_builtin; refine wpList_append_own _ rfl (.tmp 5) (.tmp 6) 157 rfl w.heap.size 168 i0 (.agg #[.int .i64 0, .int .i64 0, .int .i64 0, .int .i64 0]) 4 32 Tryd.underlying157 H3.out hz0 hz1 hz2 rfl (by decide) (.slice (some ⟨w.heap.size, 0, none⟩) 0 0) 0 [] rfl HX.out ⟨g, 0, none⟩ n c (enCells ks) rfl H2.out HY.out (enCells_one ks) (by unfold maxLen; omega) (by omega) (by simp) ?_; intro v' w1 hown1 hgrow1 _; have HO1 := Lib.hid hown1; have HG1 := Lib.hid hgrow1; clear hown1 hgrow1)
    go_ret
    have ho := HO1.out
    simp only [Nat.zero_add, List.nil_append] at ho
    exact ⟨_, rfl, ho, HB.out.grown HG1.out (by simp) (fun k e => by simp [Value.ownBlock] at e; omega)⟩
end Go.Proofs.YtmgjcjacoegocaaDoor.Re
