/-
  The contract of the table's iterator (inOrder): at each yield the address and its entry, in order of the addresses; a round may turn the table.
-/
import Derived.Test.YtmgjcjacoegocaaDoorArKeys
import Derived.Test.YtmgjcjacoegocaaDoorZi
import Derived.Test.YtmgjcjacoegocaaDoorRange2
import Derived.OwnWalkIn
import Derived.TacticsInMore
import Derived.LoopNIn
import Derived.LoopIn
import Derived.Shelf.Abstract
import Derived.Shelf.RegionOpen
import Derived.Stop.RegionWithIn
namespace Go.Proofs.YtmgjcjacoegocaaDoor.Ar
set_option maxRecDepth 100000
open Go.RowKit Go.Maps Go.Sort Go.Proofs.YtmgjcjacoegocaaDoor.Wire Go.Shelf
attribute [local go_sem] Oper.semAt_some

theorem sortsI (m : Nat) : AnyZI.SortsIn Tryd.prog Tryd.sortedI_ren Fence.wide m :=
  ⟨fun blk off cap ss W hH hblk hsz => callsIn_wide.2 (AnyM.slices_Sort_int Tryd.sortI blk off cap ss W hH hblk hsz),
   fun p cap W => callsIn_wide.2 (AnyM.slices_Sort_int_none Tryd.sortI p cap W)⟩
def sortK (L : List En) : List Int := (L.map (·.k)).mergeSort leI
abbrev itF (W : World) : Value := .func (.func 104) #[] #[.pointer (some ⟨W.heap.size, 0, none⟩)]
theorem keys_any (n : Nat) (mb : Option Nat) (W : World) : CallsIn Fence.wide n Tryd.prog 90 #[.map mb] W fun e w' => e = .returned (itF W) ∧ w' = W.alloc (.cells #[.map mb] 100) :=
  AnyZI.keys_in Tryd.keys0 Fence.wide n trivial rfl mb W
/-- a row of sorted keys -/
def KRow (lo : Nat) (K : List Int) (A : Option Addr) (cc : Nat) (W : World) : Prop := W.ownsRow lo 3 1 (.slice A K.length cc) K.length (K.map encZ)
theorem sorted_any (n : Nat) (hn : 5 ≤ n) (T : Nat) (m : Option Nat) (es : Array MapEntry) (clk : Nat) (c : Tc) (L : List En) (w : World) (h : Tab w T m es clk c L) (hk : ∀ e ∈ L, In64 e.k) (hL : L.length ≤ 1000) :
    CallsIn Fence.wide n Tryd.prog 89 #[itF w] (w.alloc (.cells #[.map m] 100)) fun e w' => ∃ A cc, e = .returned (.slice A (sortK L).length cc) ∧ KRow w.heap.size (sortK L) A cc w' ∧ Below w.heap.size w w' := by
  rcases h.map with ⟨rfl, rfl⟩ | ⟨r, rfl, hm, -⟩
  · have hseq : SeqGives Fence.wide (n - 1 - 1 - 1) Tryd.prog 104 #[.pointer (some ⟨w.heap.size, 0, none⟩)] encZ (fun ss : List Int => ss = []) 0 (w.alloc (.cells #[.map none] 100)) :=
      AnyZI.keys_gives_nil (ρ := Tryd.keys0_ren) { Tryd.keys0 with } Fence.wide _ trivial rfl w.heap.size _ (by simp) (by simp)
    have cS := AnyZI.sorted_in Tryd.sortedI Fence.wide n trivial trivial trivial trivial rfl (by omega) (sortsI _) (enters_of Tryd.func103 (by kernel_rfl) rfl) 104 #[.pointer (some ⟨w.heap.size, 0, none⟩)] trivial (enters_of Tryd.func104 (by kernel_rfl) rfl) _ 0 (Nat.zero_le _) (by omega) _ hseq
    refine CallsIn.mono cS ?_
    rintro e w' ⟨v, ss, rfl, rfl, hrow, hnil, hb⟩
    obtain rfl : v = .slice none 0 0 := hnil.2 rfl
    rw [List.mergeSort_nil] at hrow
    have hrow' := ownsRow_base_a hrow (base' := w.heap.size) (by simp)
    have h0 : sortK [] = [] := List.mergeSort_nil
    rw [h0]
    refine ⟨none, 0, rfl, ?_, ((Below.refl _ w).alloc (Nat.le_refl _) _).trans (hb.mono (by simp))⟩
    exact hrow'
  · obtain ⟨D, hown, hperm, hsize⟩ := h.owns hk hL
    have hbl := hown.lt
    have hseq : SeqGives Fence.wide (n - 1 - 1 - 1) Tryd.prog 104 #[.pointer (some ⟨w.heap.size, 0, none⟩)] encZ (fun ss => ss.Perm (intKeys D)) (Maps.size D) (w.alloc (.cells #[.map (some r)] 100)) :=
      AnyZI.keys_gives (ρ := Tryd.keys0_ren) { Tryd.keys0 with } Fence.wide _ trivial rfl (by omega) w.heap.size r 1000 D _ (by simp) (by simp) (by
        obtain ⟨es, clock, hb, Ft, hs, hD⟩ := hown
        exact ⟨es, clock, (Below.heap_alloc _ _ r hbl).trans hb, Ft, hs, hD⟩)
    have cS := AnyZI.sorted_in Tryd.sortedI Fence.wide n trivial trivial trivial trivial rfl (by omega) (sortsI _) (enters_of Tryd.func103 (by kernel_rfl) rfl) 104 #[.pointer (some ⟨w.heap.size, 0, none⟩)] trivial (enters_of Tryd.func104 (by kernel_rfl) rfl) _ _ (by rw [hsize]; unfold maxLen; omega) (by omega) _ hseq
    refine CallsIn.mono cS ?_
    rintro e w' ⟨v, ss, rfl, hS, hrow, hnil, hb⟩
    have hs : ss.mergeSort (fun x y => decide (x ≤ y)) = sortK L := mergeSort_of_perm_i (hS.trans hperm)
    have hl : (sortK L).length = ss.length := by rw [← hs, List.length_mergeSort]
    rw [hs] at hrow
    have hrow' := ownsRow_base_a hrow (base' := w.heap.size) (by simp)
    have hv : ∃ A cc, v = .slice A (sortK L).length cc := by
      rcases hrow'.2 with ⟨e, h0⟩ | ⟨g, cc, cur, e, -⟩
      · exact ⟨none, 0, by rw [e, hl, h0]⟩
      · exact ⟨_, cc, by rw [e, hl]⟩
    obtain ⟨A, cc, rfl⟩ := hv
    exact ⟨A, cc, rfl, by rw [← hl] at hrow'; exact hrow', ((Below.refl _ w).alloc (Nat.le_refl _) _).trans (hb.mono (by simp))⟩
end Go.Proofs.YtmgjcjacoegocaaDoor.Ar
