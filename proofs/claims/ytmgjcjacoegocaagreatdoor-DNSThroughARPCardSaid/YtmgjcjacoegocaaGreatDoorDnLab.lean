/-
  The contract of the iterator over the labels of a name.
-/
import Derived.Test.YtmgjcjacoegocaaGreatDoorDnCut
import Derived.Test.YtmgjcjacoegocaaGreatDoorRange
import Derived.OwnWalkIn
import Derived.TacticsInMore
import Derived.LoopNIn
import Derived.LoopIn
import Derived.Shelf.Abstract
import Derived.Shelf.RegionOpen
import Derived.Stop.RegionWithIn
namespace Go.Proofs.YtmgjcjacoegocaaGreatDoor.Dn
set_option maxRecDepth 100000
open Go.RowKit Go.Proofs.YtmgjcjacoegocaaGreatDoor.Wire Go.Shelf
attribute [local go_sem] Oper.semAt_some

theorem labels_dot : ∀ s : List UInt8, ∀ l ∈ labelsOf s, (46 : UInt8) ∉ l
  | [], l, h => by simp [labelsOf] at h; subst h; simp
  | c :: s, l, h => by
    by_cases hc : c = 46
    · subst hc
      rw [labelsOf_dot] at h
      rcases List.mem_cons.1 h with rfl | h
      · simp
      · exact labels_dot s l h
    · obtain ⟨a, t, e⟩ := List.exists_cons_of_ne_nil (labelsOf_ne s)
      rw [labelsOf_cons c s a t hc e] at h
      rcases List.mem_cons.1 h with rfl | h
      · intro q
        rcases List.mem_cons.1 q with q | q
        · exact hc q.symm
        · exact labels_dot s a (by rw [e]; exact List.mem_cons_self ..) q
      · exact labels_dot s l (by rw [e]; exact List.mem_cons_of_mem _ h)
theorem labels_any (s : ByteArray) (w : World) : Calls Tryz.prog 77 #[.string s] w fun e w' => e = .returned (.func (Fn.func 108) #[] #[.pointer (some ⟨w.heap.size, 0, none⟩)]) ∧ w' = w.alloc (.cells #[.string s] 9) := by
  go_enter Tryz.func77, Tryz.ntmps77
  go_wp2_with fail
  go_ret
  exact ⟨rfl, rfl⟩
def strSize : Value → Nat
  | .string s => s.size
  | _ => 0
set_option maxHeartbeats 2000000 in
theorem labels1_wide (n : Nat) (hn : 1 ≤ n) (L : List (List UInt8)) (hL : L ≠ []) (hdot : ∀ l ∈ L, (46 : UInt8) ∉ l) (hlen : (joinD L).length ≤ 1000000) (Bn l : Nat) (r : Loop)
    (X : Nat → World → Prop) (Xx : Code → World → Prop) (hX : ∀ i W W', X i W → Below W.heap.size W W' → X i W')
    (hY : ∀ i a W1, L[i]? = some a → X i W1 → LoopK l r W1 → YieldAt Fence.wide (n - 1) Tryz.prog (l + 1) #[.string ⟨a.toArray⟩] W1 fun e W' =>
      (e = .returned (.bool true) ∧ X (i + 1) W' ∧ LoopK l r W') ∨ (e = .returned (.bool false) ∧ ∃ c, Xx c W' ∧ LoopK l { r with state := .done, pending := some c } W'))
    (W : World) (hc : W.cell? ⟨Bn, 0, none⟩ = some (.string ⟨(joinD L).toArray⟩)) (hx : X 0 W) (hk : LoopK l r W) :
    CallsIn Fence.wide n Tryz.prog 108 #[.func (.yield (l + 1)) #[] #[], .pointer (some ⟨Bn, 0, none⟩)] W fun e W' => (∃ v, e = .returned v) ∧
      ((X L.length W' ∧ LoopK l r W') ∨ ∃ c, Xx c W' ∧ LoopK l { r with state := .done, pending := some c } W') := by
  refine callsIn_of_wp Tryz.func108 rfl trivial ?_ rfl
  simp only [Tryz.ntmps108, List.size_toArray, List.length_cons, List.length_nil, Nat.reduceAdd, Nat.reduceSub, Array.replicate_succ, Array.replicate_zero, List.push_toArray, List.append_toArray, List.nil_append, List.cons_append]
  gi_wp2
  gi_loopw [3] (fun u wr => ∃ k : Nat, k < L.length ∧ u = .string ⟨(joinD (L.drop k)).toArray⟩ ∧ (joinD (L.drop k)).length ≤ 1000000 ∧ X k wr ∧ LoopK l r wr) (fun u wr => strSize u)
  case atStart => exact ⟨0, List.length_pos_iff.2 hL, rfl, hlen, hx, hk⟩
  case round =>
    clear hx hk hc
    obtain ⟨k, hk, rfl, hln, hXk, hLk⟩ := hrel
    have HXk := Lib.hid hXk; have HL := Lib.hid hLk; clear hXk hLk
    have HG : Hid (L[k]? = some L[k]) := Lib.hid (List.getElem?_eq_getElem hk)
    have hd := List.drop_eq_getElem_cons hk
    have hdk := hdot L[k] (List.getElem_mem hk)
    have HD := Lib.hid hdk; clear hdk
    have Hd := Lib.hid hd; clear hd
    generalize L[k] = a at *
    by_cases hlast : k + 1 < L.length
    · have hne : L.drop (k + 1) ≠ [] := by intro e; have := congrArg List.length e; simp at this; omega
      have hj := joinD_cons a _ hne
      rw [← Hd.out] at hj
      have HJ := Lib.hid hj
      rw [hj] at hln
      have hln2 : (joinD (L.drop (k + 1))).length ≤ 1000000 := by rw [List.length_append, List.length_cons] at hln; omega
      have hms : (joinD (L.drop (k + 1))).length < (joinD (L.drop k)).length := by rw [hj, List.length_append, List.length_cons]; omega
      have HC := Lib.hid fun W => cut_yes a (joinD (L.drop (k + 1))) W HD.out hln
      rw [← hj] at HC
      clear hj hne
      have HLn := Lib.hid hln2; have HMs := Lib.hid hms; clear hln hln2 hms
      gi_wp2_with (refine ⟨trivial, ?_⟩; gi_at_call 109; refine (callsIn_wide.2 (HC.out _)).mono ?_; rintro e w3 ⟨rfl, hb⟩; have L3 := Lib.hid (HL.out.below hb); have X3 := Lib.hid (hX k _ _ HXk.out hb); obtain ⟨fn, tmps, assign, body, hy, hRn⟩ := hY k a w3 HG.out X3.out L3.out)
      refine hRn.mono ?_
      rintro e W' (⟨rfl, hX', hL'⟩ | ⟨rfl, c, hx', hk'⟩)
      · gi_wp2
        go_roundw
        case rel => exact ⟨k + 1, hlast, rfl, HLn.out, hX', hL'⟩
        case measure => exact HMs.out
      · gi_wp2
        refine bodyPost_ret (results_none rfl _ _ _) rfl ?_
        exact ⟨⟨_, rfl⟩, .inr ⟨c, hx', hk'⟩⟩
    · have hkl : k + 1 = L.length := by omega
      have e1 : L.drop (k + 1) = [] := List.drop_eq_nil_of_le (by omega)
      have e2 : joinD (L.drop k) = a := by rw [Hd.out, e1]; rfl
      have HC : Hid (∀ W, Calls Tryz.prog 109 #[.string ⟨a.toArray⟩, .string ⟨#[46]⟩] W fun e w' => e = .returned (.tuple #[.string ⟨a.toArray⟩, .string ⟨#[]⟩, .bool false]) ∧ Below W.heap.size W w') := Lib.hid fun W => cut_no ⟨a.toArray⟩ W HD.out
      rw [e2]
      gi_wp2_with (refine ⟨trivial, ?_⟩; gi_at_call 109; refine (callsIn_wide.2 (HC.out _)).mono ?_; rintro e w3 ⟨rfl, hb⟩; have L3 := Lib.hid (HL.out.below hb); have X3 := Lib.hid (hX k _ _ HXk.out hb); obtain ⟨fn, tmps, assign, body, hy, hRn⟩ := hY k a w3 HG.out X3.out L3.out)
      refine hRn.mono ?_
      rintro e W' (⟨rfl, hX', hL'⟩ | ⟨rfl, c, hx', hk'⟩)
      · gi_wp2
        refine bodyPost_ret (results_none rfl _ _ _) rfl ?_
        exact ⟨⟨_, rfl⟩, .inl ⟨hkl ▸ hX', hL'⟩⟩
      · gi_wp2
        refine bodyPost_ret (results_none rfl _ _ _) rfl ?_
        exact ⟨⟨_, rfl⟩, .inr ⟨c, hx', hk'⟩⟩
end Go.Proofs.YtmgjcjacoegocaaGreatDoor.Dn
