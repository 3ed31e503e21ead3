/-
  The contracts of link's reader: number, piece, length, and the iterator over the fixed fields.
-/
import Derived.Test.YtpiohahfdekmhaaDoorLkEnc
import Derived.Test.YtpiohahfdekmhaaDoorGetI
import Derived.Test.YtpiohahfdekmhaaDoorRange
import Derived.OwnWalkIn
import Derived.TacticsInMore
import Derived.LoopNIn
import Derived.LoopIn
import Derived.Shelf.Abstract
import Derived.Shelf.RegionOpen
import Derived.Stop.RegionWithIn
namespace Go.Proofs.YtpiohahfdekmhaaDoor.Lk
set_option maxRecDepth 100000
open Go.RowKit Go.Proofs.YtpiohahfdekmhaaDoor.Wire Go.Shelf
attribute [local go_sem] Oper.semAt_some

set_option maxHeartbeats 400000 in
theorem number_yes (s : ByteArray) (a k : Int) (w : World) (h1 : 1 ≤ k) (h4 : k ≤ 4) (h0 : 0 ≤ a) (ha : a + k ≤ s.size) (hm : s.size ≤ 9223372036854775807) :
    Calls Tryd.prog 23 #[.string s, .int .i64 a, .int .i64 k] w fun e w' => e = .returned (.tuple #[.int .i64 (nm s.data.toList a.toNat k.toNat), .nilIface]) ∧ Below w.heap.size w w' := by
  have HG := Lib.hid fun w => get_okI s a k w h1 h4 h0 ha hm
  have HE : Hid (num (bytesAt s a.toNat k.toNat) = nm s.data.toList a.toNat k.toNat) := Lib.hid rfl
  generalize num (bytesAt s a.toNat k.toNat) = n at *
  generalize nm s.data.toList a.toNat k.toNat = n' at *
  obtain rfl := HE.out
  clear HE
  go_enter Tryd.func23, Tryd.ntmps23
  go_wp2_with fail
  refine (HG.out _).mono ?_
  rintro e w1 ⟨rfl, hb⟩
  go_wp2_with fail
  go_ret2
  exact ⟨rfl, hb⟩
theorem piece_any (s : ByteArray) (a b : Int) (w : World) (ha : 0 ≤ a) (hab : a ≤ b) (hb : b ≤ s.size) :
    Calls Tryd.prog 22 #[.string s, .int .i64 a, .int .i64 b] w fun e w' => e = .returned (.string (s.extract a.toNat b.toNat)) ∧ w = w' := by
  have h1 : 0 ≤ b := by omega
  go_enter Tryd.func22, Tryd.ntmps22
  go_wp2_with fail
  go_ret
  exact ⟨rfl, rfl⟩
theorem length_any (s : ByteArray) (w : World) :
    Calls Tryd.prog 21 #[.string s] w fun e w' => e = .returned (.int .i64 s.size) ∧ w = w' := by
  go_enter Tryd.func21, Tryd.ntmps21
  go_wp2_with fail
  go_ret
  exact ⟨rfl, rfl⟩
def rdC (s : ByteArray) : Obj := .cells #[.string s] 56
theorem fixed_any (s : ByteArray) (w : World) : Calls Tryd.prog 20 #[.agg #[.string s]] w fun e w' =>
    e = .returned (.func (Fn.func 36) #[] #[.pointer (some ⟨w.heap.size, 0, none⟩)]) ∧ w' = w.alloc (rdC s) := by
  unfold rdC
  go_enter Tryd.func20, Tryd.ntmps20
  go_wp2_with fail
  go_ret
  exact ⟨rfl, rfl⟩
/-- the numbers of the fixed fields -/
def fval (l : List UInt8) : Nat → Int
  | 0 => nm l 0 2
  | 1 => nm l 2 2
  | 2 => nm l 4 1
  | _ => nm l 5 2
theorem fval_bd (l : List UInt8) (i : Nat) : 0 ≤ fval l i ∧ fval l i < 65536 := by
  have h0 := nm_bd l 0 2; have h1 := nm_bd l 2 2; have h2 := nm_bd l 4 1; have h3 := nm_bd l 5 2
  match i with
  | 0 => exact ⟨h0.1, by show nm l 0 2 < 65536; have := h0.2; simp at this; omega⟩
  | 1 => exact ⟨h1.1, by show nm l 2 2 < 65536; have := h1.2; simp at this; omega⟩
  | 2 => exact ⟨h2.1, by show nm l 4 1 < 65536; have := h2.2; simp at this; omega⟩
  | i + 3 => exact ⟨h3.1, by show nm l 5 2 < 65536; have := h3.2; simp at this; omega⟩
def ofs : Nat → Int | 0 => 0 | 1 => 2 | 2 => 4 | 3 => 5 | _ => 7
set_option maxHeartbeats 2000000 in
theorem fixed1_wide (n : Nat) (hn : 1 ≤ n) (s : ByteArray) (h7 : 7 ≤ s.size) (hm : s.size ≤ 9223372036854775807) (R l : Nat) (r : Loop)
    (X : Nat → World → Prop) (Xx : Code → World → Prop) (hXr : ∀ i W, X i W → W.heap[R]? = some (rdC s)) (hX : ∀ i W W', X i W → Below W.heap.size W W' → X i W')
    (hY : ∀ i W1, i < 4 → X i W1 → LoopK l r W1 → YieldAt Fence.wide (n - 1) Tryd.prog (l + 1) #[.int .i64 (fval s.data.toList i), .nilIface] W1 fun e W' =>
      (e = .returned (.bool true) ∧ X (i + 1) W' ∧ LoopK l r W') ∨ (e = .returned (.bool false) ∧ ∃ c, Xx c W' ∧ LoopK l { r with state := .done, pending := some c } W'))
    (W : World) (hx : X 0 W) (hk : LoopK l r W) :
    CallsIn Fence.wide n Tryd.prog 36 #[.func (.yield (l + 1)) #[] #[], .pointer (some ⟨R, 0, none⟩)] W fun e W' => (∃ v, e = .returned v) ∧
      ((X 4 W' ∧ LoopK l r W') ∨ ∃ c, Xx c W' ∧ LoopK l { r with state := .done, pending := some c } W') := by
  refine callsIn_of_wp Tryd.func36 rfl trivial ?_ rfl
  simp only [Tryd.ntmps36, List.size_toArray, List.length_cons, List.length_nil, Nat.reduceAdd, Nat.reduceSub, Array.replicate_succ, Array.replicate_zero, List.push_toArray, List.append_toArray, List.nil_append, List.cons_append]
  gi_wp2
  gi_loopw [3, 7] (fun u i wr => ∃ k : Nat, k ≤ 4 ∧ i = .int .i64 (k : Int) ∧ u = .int .i64 (ofs k) ∧ X k wr ∧ LoopK l r wr) (fun _ i wr => 4 - (intOf i).toNat)
  case atStart => exact ⟨0, by omega, rfl, rfl, hx, hk⟩
  case round =>
    clear hx hk
    obtain ⟨k, hk4, rfl, rfl, hXk, hL⟩ := hrel
    have HXk := Lib.hid hXk; have HL := Lib.hid hL; clear hXk hL
    by_cases hlt : k < 4
    · match k, hlt with
      | 0, _ =>
        have hix : ∀ W, (Instr.index 57 (.agg #[.int .i64 2, .int .i64 2, .int .i64 1, .int .i64 2]) (.int .i64 0)).run Tryd.prog W = .ok (.int .i64 2) W := fun _ => by kernel_rfl
        have HN := Lib.hid fun W' => number_yes s 0 2 W' (by omega) (by omega) (by omega) (by omega) hm
        have HF : Hid (nm s.data.toList ((0 : Int)).toNat ((2 : Int)).toNat = fval s.data.toList 0) := Lib.hid rfl
        generalize nm s.data.toList ((0 : Int)).toNat ((2 : Int)).toNat = v at *
        have hr := hXr _ _ HXk.out
        unfold rdC at hr
        have c0 := (cell_of_box hr).1
        clear hr
        simp only [ofs] at *
        gi_wp2_with (refine ⟨trivial, ?_⟩; gi_at_call 23; refine (callsIn_wide.2 (HN.out _)).mono ?_; rintro e w3 ⟨rfl, hb⟩; have L3 := Lib.hid (HL.out.below hb); have X3 := Lib.hid (hX 0 _ _ HXk.out hb); obtain ⟨fn, tmps, assign, body, hy, hRn⟩ := hY 0 w3 (by omega) X3.out L3.out; rw [← HF.out] at hy)
        refine hRn.mono ?_
        rintro e W' (⟨rfl, hX', hL'⟩ | ⟨rfl, c, hx', hk'⟩)
        · gi_wp2
          go_roundw
          case rel => exact ⟨1, by omega, rfl, rfl, hX', hL'⟩
          case measure => simp [intOf]
        · gi_wp2
          refine bodyPost_ret (results_none rfl _ _ _) rfl ?_
          exact ⟨⟨_, rfl⟩, .inr ⟨c, hx', hk'⟩⟩
      | 1, _ =>
        have hix : ∀ W, (Instr.index 57 (.agg #[.int .i64 2, .int .i64 2, .int .i64 1, .int .i64 2]) (.int .i64 1)).run Tryd.prog W = .ok (.int .i64 2) W := fun _ => by kernel_rfl
        have HN := Lib.hid fun W' => number_yes s 2 2 W' (by omega) (by omega) (by omega) (by omega) hm
        have HF : Hid (nm s.data.toList ((2 : Int)).toNat ((2 : Int)).toNat = fval s.data.toList 1) := Lib.hid rfl
        generalize nm s.data.toList ((2 : Int)).toNat ((2 : Int)).toNat = v at *
        have hr := hXr _ _ HXk.out
        unfold rdC at hr
        have c0 := (cell_of_box hr).1
        clear hr
        simp only [ofs] at *
        gi_wp2_with (refine ⟨trivial, ?_⟩; gi_at_call 23; refine (callsIn_wide.2 (HN.out _)).mono ?_; rintro e w3 ⟨rfl, hb⟩; have L3 := Lib.hid (HL.out.below hb); have X3 := Lib.hid (hX 1 _ _ HXk.out hb); obtain ⟨fn, tmps, assign, body, hy, hRn⟩ := hY 1 w3 (by omega) X3.out L3.out; rw [← HF.out] at hy)
        refine hRn.mono ?_
        rintro e W' (⟨rfl, hX', hL'⟩ | ⟨rfl, c, hx', hk'⟩)
        · gi_wp2
          go_roundw
          case rel => exact ⟨2, by omega, rfl, rfl, hX', hL'⟩
          case measure => simp [intOf]
        · gi_wp2
          refine bodyPost_ret (results_none rfl _ _ _) rfl ?_
          exact ⟨⟨_, rfl⟩, .inr ⟨c, hx', hk'⟩⟩
      | 2, _ =>
        have hix : ∀ W, (Instr.index 57 (.agg #[.int .i64 2, .int .i64 2, .int .i64 1, .int .i64 2]) (.int .i64 2)).run Tryd.prog W = .ok (.int .i64 1) W := fun _ => by kernel_rfl
        have HN := Lib.hid fun W' => number_yes s 4 1 W' (by omega) (by omega) (by omega) (by omega) hm
        have HF : Hid (nm s.data.toList ((4 : Int)).toNat ((1 : Int)).toNat = fval s.data.toList 2) := Lib.hid rfl
        generalize nm s.data.toList ((4 : Int)).toNat ((1 : Int)).toNat = v at *
        have hr := hXr _ _ HXk.out
        unfold rdC at hr
        have c0 := (cell_of_box hr).1
        clear hr
        simp only [ofs] at *
        gi_wp2_with (refine ⟨trivial, ?_⟩; gi_at_call 23; refine (callsIn_wide.2 (HN.out _)).mono ?_; rintro e w3 ⟨rfl, hb⟩; have L3 := Lib.hid (HL.out.below hb); have X3 := Lib.hid (hX 2 _ _ HXk.out hb); obtain ⟨fn, tmps, assign, body, hy, hRn⟩ := hY 2 w3 (by omega) X3.out L3.out; rw [← HF.out] at hy)
        refine hRn.mono ?_
        rintro e W' (⟨rfl, hX', hL'⟩ | ⟨rfl, c, hx', hk'⟩)
        · gi_wp2
          go_roundw
          case rel => exact ⟨3, by omega, rfl, rfl, hX', hL'⟩
          case measure => simp [intOf]
        · gi_wp2
          refine bodyPost_ret (results_none rfl _ _ _) rfl ?_
          exact ⟨⟨_, rfl⟩, .inr ⟨c, hx', hk'⟩⟩
      | 3, _ =>
        have hix : ∀ W, (Instr.index 57 (.agg #[.int .i64 2, .int .i64 2, .int .i64 1, .int .i64 2]) (.int .i64 3)).run Tryd.prog W = .ok (.int .i64 2) W := fun _ => by kernel_rfl
        have HN := Lib.hid fun W' => number_yes s 5 2 W' (by omega) (by omega) (by omega) (by omega) hm
        have HF : Hid (nm s.data.toList ((5 : Int)).toNat ((2 : Int)).toNat = fval s.data.toList 3) := Lib.hid rfl
        generalize nm s.data.toList ((5 : Int)).toNat ((2 : Int)).toNat = v at *
        have hr := hXr _ _ HXk.out
        unfold rdC at hr
        have c0 := (cell_of_box hr).1
        clear hr
        simp only [ofs] at *
        gi_wp2_with (refine ⟨trivial, ?_⟩; gi_at_call 23; refine (callsIn_wide.2 (HN.out _)).mono ?_; rintro e w3 ⟨rfl, hb⟩; have L3 := Lib.hid (HL.out.below hb); have X3 := Lib.hid (hX 3 _ _ HXk.out hb); obtain ⟨fn, tmps, assign, body, hy, hRn⟩ := hY 3 w3 (by omega) X3.out L3.out; rw [← HF.out] at hy)
        refine hRn.mono ?_
        rintro e W' (⟨rfl, hX', hL'⟩ | ⟨rfl, c, hx', hk'⟩)
        · gi_wp2
          go_roundw
          case rel => exact ⟨4, by omega, rfl, rfl, hX', hL'⟩
          case measure => simp [intOf]
        · gi_wp2
          refine bodyPost_ret (results_none rfl _ _ _) rfl ?_
          exact ⟨⟨_, rfl⟩, .inr ⟨c, hx', hk'⟩⟩
    · obtain rfl : k = 4 := by omega
      gi_wp2
      go_end0
      exact ⟨⟨_, rfl⟩, .inl ⟨HXk.out, HL.out⟩⟩
end Go.Proofs.YtpiohahfdekmhaaDoor.Lk
