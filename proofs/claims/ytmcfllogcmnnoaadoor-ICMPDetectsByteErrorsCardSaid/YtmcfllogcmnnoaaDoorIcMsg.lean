/-
  The contract of Msg: a valid message out of any.
-/
import Derived.Test.YtmcfllogcmnnoaaDoorIcA
namespace Go.Proofs.YtmcfllogcmnnoaaDoor.Ic
set_option maxRecDepth 100000
open Go.RowKit Go.Proofs.YtmcfllogcmnnoaaDoor.Wire Go.Proofs.YtmcfllogcmnnoaaDoor.Gen
open Go.Proofs.YtmcfllogcmnnoaaDoor.Ip (In64)

def MsgPost (w : World) (e : Ending) (w' : World) : Prop := ∃ k c n s, MOk k c n s.size ∧ e = .returned (.agg #[.int .i64 k, .int .i64 c, .int .i64 n, .string s]) ∧ Below w.heap.size w w'
set_option maxHeartbeats 4000000 in
theorem msg_any (x0 x1 x2 : Int) (s : ByteArray) (w : World) (h0 : In64 x0) (h1 : In64 x1) (h2 : In64 x2) (hs : s.size ≤ 9223372036854775807) :
    Calls Tryd.prog 26 #[.agg #[.int .i64 x0, .int .i64 x1, .int .i64 x2, .string s]] w (MsgPost w) := by
  have P0 := Lib.hid fun W => pick8_any x0 5 W h0 (by omega) (by omega)
  have P14 := Lib.hid fun W => pick8_any x1 4 W h1 (by omega) (by omega)
  have P12 := Lib.hid fun W => pick8_any x1 2 W h1 (by omega) (by omega)
  have P29 := Lib.hid fun W => pick8_any x2 957 W h2 (by omega) (by omega)
  have P2b := Lib.hid fun W => pick8_any x2 4294967296 W h2 (by omega) (by omega)
  have b0 := pick_lt x0 5 (by omega)
  have b14 := pick_lt x1 4 (by omega)
  have b12 := pick_lt x1 2 (by omega)
  have b29 := pick_lt x2 957 (by omega)
  have b2b := pick_lt x2 4294967296 (by omega)
  clear h0 h1 h2
  generalize pick x0 5 = kp at *
  generalize pick x1 4 = c4 at *
  generalize pick x1 2 = c2 at *
  generalize pick x2 957 = n9 at *
  generalize pick x2 4294967296 = nb at *
  have w1 : IntKind.i64.wrap (1 + c4) = 1 + c4 := IntWalk.i64_in _ (by omega)
  have w2 : IntKind.i64.wrap (1 + c2) = 1 + c2 := IntWalk.i64_in _ (by omega)
  have w3 : IntKind.i64.wrap (68 + n9) = 68 + n9 := IntWalk.i64_in _ (by omega)
  have m1 : (0 : Int) ≤ min (s.size : Int) 500 ∧ min (s.size : Int) 500 ≤ (s.size : Int) := by omega
  have m2 : (0 : Int) ≤ min (s.size : Int) 28 ∧ min (s.size : Int) 28 ≤ (s.size : Int) := by omega
  have z1 : (s.extract 0 (min (s.size : Int) 500).toNat).size ≤ 500 := by rw [ByteArray.size_extract]; omega
  have z2 : (s.extract 0 (min (s.size : Int) 28).toNat).size ≤ 28 := by rw [ByteArray.size_extract]; omega
  have HZ1 := Lib.hid z1; have HZ2 := Lib.hid z2; clear z1 z2
  have hk : kp = 0 ∨ kp = 1 ∨ kp = 2 ∨ kp = 3 ∨ kp = 4 := by omega
  rcases hk with rfl | rfl | rfl | rfl | rfl
  · clear b0
    go_enter Tryd.func26, Tryd.ntmps26
    go_wp2_with (first | (go_at_call 23; (with_reducible refine (P0.out _).mono ?_); rintro e w' ⟨rfl, rfl⟩) | (go_at_call 23; (with_reducible refine (P2b.out _).mono ?_); rintro e w' ⟨rfl, rfl⟩))
    have hz := HZ1.out
    refine bodyPost_ret (v := .agg #[.int .i64 1, .int .i64 0, .int .i64 nb, .string (s.extract 0 (min (s.size : Int) 500).toNat)]) (res_cell1 Tryd.results26 (g := w.heap.size + 1) (t := 23) (cs := #[.int .i64 1, .int .i64 0, .int .i64 nb, .string (s.extract 0 (min (s.size : Int) 500).toNat)]) (fr := (0, 0)) (block_alloc (alloc_new' _ _ _ (by simp)) _) rfl Tryd.underlying23 rfl infoMsg) rfl ⟨1, 0, nb, (s.extract 0 (min (s.size : Int) 500).toNat), ⟨by omega, by unfold Suits; simp; try omega, by unfold mostOf; simp; omega⟩, rfl, (((Below.refl _ _).alloc (Nat.le_refl _) _).alloc (by simp) _).alloc (by simp; omega) _⟩
  · clear b0
    go_enter Tryd.func26, Tryd.ntmps26
    go_wp2_with (first | (go_at_call 23; (with_reducible refine (P0.out _).mono ?_); rintro e w' ⟨rfl, rfl⟩) | (go_at_call 23; (with_reducible refine (P2b.out _).mono ?_); rintro e w' ⟨rfl, rfl⟩))
    have hz := HZ1.out
    refine bodyPost_ret (v := .agg #[.int .i64 2, .int .i64 0, .int .i64 nb, .string (s.extract 0 (min (s.size : Int) 500).toNat)]) (res_cell1 Tryd.results26 (g := w.heap.size + 1) (t := 23) (cs := #[.int .i64 2, .int .i64 0, .int .i64 nb, .string (s.extract 0 (min (s.size : Int) 500).toNat)]) (fr := (0, 0)) (block_alloc (alloc_new' _ _ _ (by simp)) _) rfl Tryd.underlying23 rfl infoMsg) rfl ⟨2, 0, nb, (s.extract 0 (min (s.size : Int) 500).toNat), ⟨by omega, by unfold Suits; simp; try omega, by unfold mostOf; simp; omega⟩, rfl, (((Below.refl _ _).alloc (Nat.le_refl _) _).alloc (by simp) _).alloc (by simp; omega) _⟩
  · clear b0
    go_enter Tryd.func26, Tryd.ntmps26
    go_wp2_with (first | (go_at_call 23; (with_reducible refine (P0.out _).mono ?_); rintro e w' ⟨rfl, rfl⟩) | (go_at_call 23; (with_reducible refine (P14.out _).mono ?_); rintro e w' ⟨rfl, rfl⟩))
    have hz := HZ2.out
    refine bodyPost_ret (v := .agg #[.int .i64 3, .int .i64 (1 + c4), .int .i64 0, .string (s.extract 0 (min (s.size : Int) 28).toNat)]) (res_cell1 Tryd.results26 (g := w.heap.size + 1) (t := 23) (cs := #[.int .i64 3, .int .i64 (1 + c4), .int .i64 0, .string (s.extract 0 (min (s.size : Int) 28).toNat)]) (fr := (0, 0)) (block_alloc (alloc_new' _ _ _ (by simp)) _) rfl Tryd.underlying23 rfl infoMsg) rfl ⟨3, (1 + c4), 0, (s.extract 0 (min (s.size : Int) 28).toNat), ⟨by omega, by unfold Suits; simp; try omega, by unfold mostOf; simp; omega⟩, rfl, (((Below.refl _ _).alloc (Nat.le_refl _) _).alloc (by simp) _).alloc (by simp; omega) _⟩
  · clear b0
    go_enter Tryd.func26, Tryd.ntmps26
    go_wp2_with (first | (go_at_call 23; (with_reducible refine (P0.out _).mono ?_); rintro e w' ⟨rfl, rfl⟩) | (go_at_call 23; (with_reducible refine (P12.out _).mono ?_); rintro e w' ⟨rfl, rfl⟩))
    have hz := HZ2.out
    refine bodyPost_ret (v := .agg #[.int .i64 4, .int .i64 (1 + c2), .int .i64 0, .string (s.extract 0 (min (s.size : Int) 28).toNat)]) (res_cell1 Tryd.results26 (g := w.heap.size + 1) (t := 23) (cs := #[.int .i64 4, .int .i64 (1 + c2), .int .i64 0, .string (s.extract 0 (min (s.size : Int) 28).toNat)]) (fr := (0, 0)) (block_alloc (alloc_new' _ _ _ (by simp)) _) rfl Tryd.underlying23 rfl infoMsg) rfl ⟨4, (1 + c2), 0, (s.extract 0 (min (s.size : Int) 28).toNat), ⟨by omega, by unfold Suits; simp; try omega, by unfold mostOf; simp; omega⟩, rfl, (((Below.refl _ _).alloc (Nat.le_refl _) _).alloc (by simp) _).alloc (by simp; omega) _⟩
  · clear b0
    go_enter Tryd.func26, Tryd.ntmps26
    go_wp2_with (first | (go_at_call 23; (with_reducible refine (P0.out _).mono ?_); rintro e w' ⟨rfl, rfl⟩) | (go_at_call 23; (with_reducible refine (P29.out _).mono ?_); rintro e w' ⟨rfl, rfl⟩))
    have hz := HZ2.out
    refine bodyPost_ret (v := .agg #[.int .i64 5, .int .i64 0, .int .i64 (68 + n9), .string (s.extract 0 (min (s.size : Int) 28).toNat)]) (res_cell1 Tryd.results26 (g := w.heap.size + 1) (t := 23) (cs := #[.int .i64 5, .int .i64 0, .int .i64 (68 + n9), .string (s.extract 0 (min (s.size : Int) 28).toNat)]) (fr := (0, 0)) (block_alloc (alloc_new' _ _ _ (by simp)) _) rfl Tryd.underlying23 rfl infoMsg) rfl ⟨5, 0, (68 + n9), (s.extract 0 (min (s.size : Int) 28).toNat), ⟨by omega, by unfold Suits; simp; try omega, by unfold mostOf; simp; omega⟩, rfl, (((Below.refl _ _).alloc (Nat.le_refl _) _).alloc (by simp) _).alloc (by simp; omega) _⟩
end Go.Proofs.YtmcfllogcmnnoaaDoor.Ic
