/-
  Contracts of slices.IndexFunc and slices.DeleteFunc at entries of the table of path MTUs, for every function value that answers a plain test.
-/
import Derived.Test.YtmcfllogcmnnoaaDoorPath0
import Derived.WalkKit
import Derived.WalkMore
import Derived.Deep.QuietTactic
import Derived.Shelf.Abstract
import Derived.Deep.Cut

namespace Go.Proofs.YtmcfllogcmnnoaaDoor.Ic
set_option maxRecDepth 100000
open Go.RowKit Go.Proofs.YtmcfllogcmnnoaaDoor.Wire

/-- the function value answers the test p, whatever has become of block g -/
def Tests (fn : Nat) (lb : Array Value) (p : En → Bool) (g : Nat) (l : List En) (w : World) : Prop := ∀ (e : En) (_ : e ∈ l) (W : World), w.grownBy W (some g) →
  Calls Tryd.prog fn (#[enV e] ++ lb) W fun x W' => x = .returned (.bool (p e)) ∧ Below W.heap.size W W'
/-- the first place at which p holds -/
def idxI (p : En → Bool) (l : List En) : Int := match l.findIdx? p with | some i => (i : Int) | none => -1
theorem idxI_none {p : En → Bool} {l : List En} (h : ∀ (j : Nat) (e : En), l[j]? = some e → p e = false) : idxI p l = -1 := by
  unfold idxI
  rw [List.findIdx?_eq_none_iff.2 (fun e he => by obtain ⟨j, hj⟩ := List.getElem?_of_mem he; exact h j e hj)]
theorem idxI_some {p : En → Bool} {l : List En} {k : Nat} {x : En} (hx : l[k]? = some x) (hp : p x = true) (h : ∀ (j : Nat) (e : En), j < k → l[j]? = some e → p e = false) : idxI p l = (k : Int) := by
  unfold idxI
  obtain ⟨hk, rfl⟩ := List.getElem?_eq_some_iff.1 hx
  have : l.findIdx? p = some k := by
    rw [List.findIdx?_eq_some_iff_getElem]
    exact ⟨hk, hp, fun j hj => by rw [h j _ hj (List.getElem?_eq_getElem (by omega))]; simp⟩
  rw [this]
set_option maxHeartbeats 2000000 in
theorem index_any (fn : Nat) (lb : Array Value) (eg : ∀ args w, (callFunc fn args).run Tryd.prog w = .ok (.enter fn args) w) (p : En → Bool) (g c : Nat) (l : List En) (w : World) (hl : l.length ≤ 9223372036854775807)
    (hr : RowP w g c 100 (fun i e => l[i]? = some e)) (hp : Tests fn lb p g l w) :
    Calls Tryd.prog 81 #[.slice (some ⟨g, 0, none⟩) l.length c, .func (.func fn) #[] lb] w fun x w' => x = .returned (.int .i64 (idxI p l)) ∧ Below w.heap.size w w' := by
  have HR := Lib.hid hr; have HP := Lib.hid hp; clear hr hp
  have HB := Below.refl w.heap.size w
  obtain ⟨n, hn⟩ : ∃ n, n = l.length := ⟨_, rfl⟩
  rw [← hn] at hl ⊢
  have HN := Lib.hid hn; clear hn
  go_enter Tryd.func81, Tryd.ntmps81
  go_wp2_with fail
  go_loopw [5, 8] (fun _ i wr => ∃ k : Nat, k ≤ n ∧ i = .int .i64 (k : Int) ∧ (∀ (j : Nat) (e : En), j < k → l[j]? = some e → p e = false) ∧ Below w.heap.size w wr) (fun _ i _ => n - (Go.RowKit.intOf i).toNat)
  case atStart => exact ⟨0, by omega, rfl, fun j e hj => by omega, HB⟩
  case round =>
    clear HB
    obtain ⟨k, hk, rfl, hok, HB⟩ := hrel
    have HO := Lib.hid hok; clear hok
    by_cases hlt : k < n
    · have k1 : (0 : Int) ≤ (k : Int) := by omega
      have k2 : (k : Int) < (n : Int) := by omega
      obtain ⟨x, hx⟩ : ∃ x, l[k]? = some x := ⟨l[k]'(by rw [← HN.out]; exact hlt), List.getElem?_eq_getElem _⟩
      obtain ⟨c0, c1, c2⟩ := HR.out.cells k x hx
      have hgl := HR.out.lt
      have d0 := (HB.cell (p := ⟨g, k * 3, none⟩) hgl).trans c0
      have d1 := (HB.cell (p := ⟨g, k * 3 + 1, none⟩) hgl).trans c1
      have d2 := (HB.cell (p := ⟨g, k * 3 + 2, none⟩) hgl).trans c2
      have HX := Lib.hid hx; clear hx c0 c1 c2
      have HC : Hid (∀ W, Below wr.heap.size wr W → Calls Tryd.prog fn (#[enV x] ++ lb) W fun x' W' => x' = .returned (.bool (p x)) ∧ Below W.heap.size W W') := Lib.hid fun W hb => HP.out x (List.mem_of_getElem? HX.out) W (only_of_below (below_call HB hb))
      unfold enV at HC
      cases hq : p x with
      | true =>
        rw [hq] at HC
        go_wp2_with (go_at_fn fn; refine (HC.out _ (by first | exact Below.refl _ _ | exact (Below.refl _ _).drew)).mono ?_; rintro e w' ⟨rfl, hb⟩)
        go_ret
        exact ⟨by rw [idxI_some HX.out hq (fun j e hj => HO.out j e hj)]; rfl, below_call HB hb⟩
      | false =>
        rw [hq] at HC
        go_wp2_with (go_at_fn fn; refine (HC.out _ (by first | exact Below.refl _ _ | exact (Below.refl _ _).drew)).mono ?_; rintro e w' ⟨rfl, hb⟩)
        refine ⟨⟨k + 1, by omega, by go_num, fun j e hj he => ?_, below_call HB hb⟩, by simp [Go.RowKit.intOf]; omega⟩
        rcases Nat.lt_succ_iff_lt_or_eq.1 hj with q | q
        · exact HO.out j e q he
        · subst q; rw [HX.out] at he; cases he; exact hq
    · have hltz : ¬ (k : Int) < (n : Int) := by omega
      have HK : Hid (k = n) := Lib.hid (by omega)
      go_wp2_with fail
      go_ret
      exact ⟨by rw [idxI_none (fun j e he => HO.out j e (by rw [HK.out, HN.out]; exact (List.getElem?_eq_some_iff.1 he).1) he)]; rfl, HB⟩
end Go.Proofs.YtmcfllogcmnnoaaDoor.Ic
