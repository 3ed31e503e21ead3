/-
  The walk of the law ICMPPathMTUExpires.
-/
import Derived.Test.YtmcfllogcmnnoaaDoorIcA
namespace Go.Proofs.YtmcfllogcmnnoaaDoor.Ic
set_option maxRecDepth 100000
open Go.RowKit Go.Proofs.YtmcfllogcmnnoaaDoor.Wire Go.Proofs.YtmcfllogcmnnoaaDoor.Gen
open Go.Proofs.YtmcfllogcmnnoaaDoor.Ip (In64)

set_option maxHeartbeats 4000000 in
theorem expires_law (x0 x1 x2 x3 x4 x5 : Int) (a0 a1 : Addr) (w : World) (hg : GlE w a0 a1) (h0 : In64 x0) (h1 : In64 x1) (h2 : In64 x2) (h3 : In64 x3) (h4 : In64 x4) (h5 : In64 x5) :
    Calls Tryd.prog 11 #[.int .i64 x0, .int .i64 x1, .int .i64 x2, .int .i64 x3, .int .i64 x4, .int .i64 x5] w fun e w' => e = .returned (.bool true) ∧ Below w.heap.size w w' := by
  have HS := Lib.hid (sane_any a0 a1 w hg)
  have P0 := Lib.hid fun W => pick8_any x0 1000000000 W h0 (by omega) (by omega)
  have P1 := Lib.hid fun W => pick8_any x1 1000 W h1 (by omega) (by omega)
  have P2 := Lib.hid fun W => pick8_any x2 1000 W h2 (by omega) (by omega)
  have P3 := Lib.hid fun W => pick8_any x3 957 W h3 (by omega) (by omega)
  have P4 := Lib.hid fun W => pick8_any x4 957 W h4 (by omega) (by omega)
  have P5 := Lib.hid fun W => pick8_any x5 701 W h5 (by omega) (by omega)
  have b0 := pick_lt x0 1000000000 (by omega)
  have b1 := pick_lt x1 1000 (by omega)
  have b2 := pick_lt x2 1000 (by omega)
  have b3 := pick_lt x3 957 (by omega)
  have b4 := pick_lt x4 957 (by omega)
  have b5 := pick_lt x5 701 (by omega)
  clear h0 h1 h2 h3 h4 h5 hg
  generalize pick x0 1000000000 = now at *
  generalize pick x1 1000 = a at *
  generalize pick x2 1000 = b at *
  generalize pick x3 957 = n at *
  generalize pick x4 957 = m at *
  generalize pick x5 701 = later at *
  have hok1 : lowOk now (1 + a) (68 + n) := by unfold lowOk; omega
  have hok2 : lowOk now (1 + b) (68 + m) := by unfold lowOk; omega
  have HL1 : Hid (∀ b0 B W0 W, Own b0 B [] W0 W → Calls Tryd.prog 30 #[.pointer (some ⟨B, 0, none⟩), .int .i64 now, .int .i64 (1 + a), .int .i64 (68 + n)] W fun e w' => e = .returned (.bool true) ∧ Own b0 B [⟨1 + a, 68 + n, now⟩] W0 w') := Lib.hid fun b0 B W0 W h => by
    have := own_lower now (1 + a) (68 + n) h
    rwa [(lowL_nil now (1 + a) (68 + n) hok1).1, (lowL_nil now (1 + a) (68 + n) hok1).2] at this
  have w1 : IntKind.i64.wrap (1 + a) = 1 + a := IntWalk.i64_in _ (by omega)
  have w2 : IntKind.i64.wrap (1 + b) = 1 + b := IntWalk.i64_in _ (by omega)
  have w3 : IntKind.i64.wrap (68 + n) = 68 + n := IntWalk.i64_in _ (by omega)
  have w4 : IntKind.i64.wrap (68 + m) = 68 + m := IntWalk.i64_in _ (by omega)
  have w5 : IntKind.i64.wrap (now + later) = now + later := IntWalk.i64_in _ (by omega)
  by_cases hab : a = b
  · subst hab
    have HZ : Hid (∀ b0 B W0 W, Own b0 B [⟨1 + a, 68 + n, now⟩] W0 W → Calls Tryd.prog 33 #[.pointer (some ⟨B, 0, none⟩), .int .i64 (now + later), .int .i64 (1 + a), .int .i64 1024] W fun e w' => e = .returned (.int .i64 (if later < 600 then 68 + n else 1024)) ∧ Own b0 B [⟨1 + a, 68 + n, now⟩] W0 w') := Lib.hid fun b0 B W0 W h => by
      have := own_size (now + later) (1 + a) 1024 h
      have hv : sizeE [⟨1 + a, 68 + n, now⟩] (now + later) (1 + a) 1024 = if later < 600 then 68 + n else 1024 := by
        rw [sizeE_first]
        by_cases q : later < 600
        · rw [if_pos (by omega), if_pos q]; omega
        · rw [if_neg (by omega), if_neg q]
      rwa [hv] at this
    by_cases hl : later < 600
    · rw [if_pos hl] at HZ
      go_enter Tryd.func11, Tryd.ntmps11
      go_wp2_with (first | (go_at_call 33; have _t := hO1; clear _t; (with_reducible refine (HZ.out _ _ _ _ hO1).mono ?_); rintro e v5 ⟨rfl, hO3⟩) | (go_at_call 30; have _t := hO0; clear _t; (with_reducible refine (HL1.out _ _ _ _ hO0).mono ?_); rintro e v3 ⟨rfl, hO1⟩) | (go_at_call 13; (with_reducible refine (HS.out).mono ?_); rintro e v1 ⟨rfl, hb1⟩) | (go_at_call 23; (with_reducible refine (P0.out _).mono ?_); rintro e w' ⟨rfl, rfl⟩) | (go_at_call 23; (with_reducible refine (P1.out _).mono ?_); rintro e w' ⟨rfl, rfl⟩) | (go_at_call 23; (with_reducible refine (P2.out _).mono ?_); rintro e w' ⟨rfl, rfl⟩) | (go_at_call 23; (with_reducible refine (P3.out _).mono ?_); rintro e w' ⟨rfl, rfl⟩) | (go_at_call 23; (with_reducible refine (P4.out _).mono ?_); rintro e w' ⟨rfl, rfl⟩) | (go_at_call 23; (with_reducible refine (P5.out _).mono ?_); rintro e w' ⟨rfl, rfl⟩) | (go_at_call 28; (with_reducible refine (own_new _).mono ?_); rintro e v2 ⟨rfl, hO0⟩))
      go_ret
      exact ⟨rfl, below_call hb1 hO3.below⟩
    · rw [if_neg hl] at HZ
      have hl2 : ¬ later < 600 := hl
      go_enter Tryd.func11, Tryd.ntmps11
      go_wp2_with (first | (go_at_call 33; have _t := hO1; clear _t; (with_reducible refine (HZ.out _ _ _ _ hO1).mono ?_); rintro e v5 ⟨rfl, hO3⟩) | (go_at_call 30; have _t := hO0; clear _t; (with_reducible refine (HL1.out _ _ _ _ hO0).mono ?_); rintro e v3 ⟨rfl, hO1⟩) | (go_at_call 13; (with_reducible refine (HS.out).mono ?_); rintro e v1 ⟨rfl, hb1⟩) | (go_at_call 23; (with_reducible refine (P0.out _).mono ?_); rintro e w' ⟨rfl, rfl⟩) | (go_at_call 23; (with_reducible refine (P1.out _).mono ?_); rintro e w' ⟨rfl, rfl⟩) | (go_at_call 23; (with_reducible refine (P2.out _).mono ?_); rintro e w' ⟨rfl, rfl⟩) | (go_at_call 23; (with_reducible refine (P3.out _).mono ?_); rintro e w' ⟨rfl, rfl⟩) | (go_at_call 23; (with_reducible refine (P4.out _).mono ?_); rintro e w' ⟨rfl, rfl⟩) | (go_at_call 23; (with_reducible refine (P5.out _).mono ?_); rintro e w' ⟨rfl, rfl⟩) | (go_at_call 28; (with_reducible refine (own_new _).mono ?_); rintro e v2 ⟨rfl, hO0⟩))
      go_ret
      exact ⟨rfl, below_call hb1 hO3.below⟩
  · have hbq : (1 + a != 1 + b) = true := by simp; exact hab
    have HL2 : Hid (∀ b0 B W0 W, Own b0 B [⟨1 + a, 68 + n, now⟩] W0 W → Calls Tryd.prog 30 #[.pointer (some ⟨B, 0, none⟩), .int .i64 now, .int .i64 (1 + b), .int .i64 (68 + m)] W fun e w' => e = .returned (.bool (lowB [⟨1 + a, 68 + n, now⟩] now (1 + b) (68 + m))) ∧ Own b0 B [⟨1 + a, 68 + n, now⟩, ⟨1 + b, 68 + m, now⟩] W0 w') := Lib.hid fun b0 B W0 W h => by
      have := own_lower now (1 + b) (68 + m) h
      rwa [lowL_two now (1 + a) (68 + n) (1 + b) (68 + m) hok2 (by omega)] at this
    generalize lowB [⟨1 + a, 68 + n, now⟩] now (1 + b) (68 + m) = bb at *
    have hab' := Lib.hid hab; clear hab
    have HZ : Hid (∀ b0 B W0 W, Own b0 B [⟨1 + a, 68 + n, now⟩, ⟨1 + b, 68 + m, now⟩] W0 W → Calls Tryd.prog 33 #[.pointer (some ⟨B, 0, none⟩), .int .i64 (now + later), .int .i64 (1 + a), .int .i64 1024] W fun e w' => e = .returned (.int .i64 (if later < 600 then 68 + n else 1024)) ∧ Own b0 B [⟨1 + a, 68 + n, now⟩, ⟨1 + b, 68 + m, now⟩] W0 w') := Lib.hid fun b0 B W0 W h => by
      have := own_size (now + later) (1 + a) 1024 h
      have hv : sizeE [⟨1 + a, 68 + n, now⟩, ⟨1 + b, 68 + m, now⟩] (now + later) (1 + a) 1024 = if later < 600 then 68 + n else 1024 := by
        rw [sizeE_first]
        by_cases q : later < 600
        · rw [if_pos (by omega), if_pos q]; omega
        · rw [if_neg (by omega), if_neg q]
      rwa [hv] at this
    by_cases hl : later < 600
    · rw [if_pos hl] at HZ
      go_enter Tryd.func11, Tryd.ntmps11
      go_wp2_with (first | (go_at_call 33; have _t := hO2; clear _t; (with_reducible refine (HZ.out _ _ _ _ hO2).mono ?_); rintro e v5 ⟨rfl, hO3⟩) | (go_at_call 30; have _t := hO1; clear _t; (with_reducible refine (HL2.out _ _ _ _ hO1).mono ?_); rintro e v4 ⟨rfl, hO2⟩) | (go_at_call 30; have _t := hO0; clear _t; (with_reducible refine (HL1.out _ _ _ _ hO0).mono ?_); rintro e v3 ⟨rfl, hO1⟩) | (go_at_call 13; (with_reducible refine (HS.out).mono ?_); rintro e v1 ⟨rfl, hb1⟩) | (go_at_call 23; (with_reducible refine (P0.out _).mono ?_); rintro e w' ⟨rfl, rfl⟩) | (go_at_call 23; (with_reducible refine (P1.out _).mono ?_); rintro e w' ⟨rfl, rfl⟩) | (go_at_call 23; (with_reducible refine (P2.out _).mono ?_); rintro e w' ⟨rfl, rfl⟩) | (go_at_call 23; (with_reducible refine (P3.out _).mono ?_); rintro e w' ⟨rfl, rfl⟩) | (go_at_call 23; (with_reducible refine (P4.out _).mono ?_); rintro e w' ⟨rfl, rfl⟩) | (go_at_call 23; (with_reducible refine (P5.out _).mono ?_); rintro e w' ⟨rfl, rfl⟩) | (go_at_call 28; (with_reducible refine (own_new _).mono ?_); rintro e v2 ⟨rfl, hO0⟩))
      go_ret
      exact ⟨rfl, below_call hb1 hO3.below⟩
    · rw [if_neg hl] at HZ
      have hl2 : ¬ later < 600 := hl
      go_enter Tryd.func11, Tryd.ntmps11
      go_wp2_with (first | (go_at_call 33; have _t := hO2; clear _t; (with_reducible refine (HZ.out _ _ _ _ hO2).mono ?_); rintro e v5 ⟨rfl, hO3⟩) | (go_at_call 30; have _t := hO1; clear _t; (with_reducible refine (HL2.out _ _ _ _ hO1).mono ?_); rintro e v4 ⟨rfl, hO2⟩) | (go_at_call 30; have _t := hO0; clear _t; (with_reducible refine (HL1.out _ _ _ _ hO0).mono ?_); rintro e v3 ⟨rfl, hO1⟩) | (go_at_call 13; (with_reducible refine (HS.out).mono ?_); rintro e v1 ⟨rfl, hb1⟩) | (go_at_call 23; (with_reducible refine (P0.out _).mono ?_); rintro e w' ⟨rfl, rfl⟩) | (go_at_call 23; (with_reducible refine (P1.out _).mono ?_); rintro e w' ⟨rfl, rfl⟩) | (go_at_call 23; (with_reducible refine (P2.out _).mono ?_); rintro e w' ⟨rfl, rfl⟩) | (go_at_call 23; (with_reducible refine (P3.out _).mono ?_); rintro e w' ⟨rfl, rfl⟩) | (go_at_call 23; (with_reducible refine (P4.out _).mono ?_); rintro e w' ⟨rfl, rfl⟩) | (go_at_call 23; (with_reducible refine (P5.out _).mono ?_); rintro e w' ⟨rfl, rfl⟩) | (go_at_call 28; (with_reducible refine (own_new _).mono ?_); rintro e v2 ⟨rfl, hO0⟩))
      go_ret
      exact ⟨rfl, below_call hb1 hO3.below⟩
end Go.Proofs.YtmcfllogcmnnoaaDoor.Ic
