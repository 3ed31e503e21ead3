/-
  The walk of the law ICMPCanonical.
-/
import Derived.Test.YtmcfllogcmnnoaaDoorIcMsg
namespace Go.Proofs.YtmcfllogcmnnoaaDoor.Ic
set_option maxRecDepth 100000
open Go.RowKit Go.Proofs.YtmcfllogcmnnoaaDoor.Wire Go.Proofs.YtmcfllogcmnnoaaDoor.Gen
open Go.Proofs.YtmcfllogcmnnoaaDoor.Ip (In64)

theorem eqMsg1 (k c n : Int) (s : ByteArray) (k' c' n' : Int) (s' : ByteArray) : ∀ w : World, (Op.equalIn 10000 23 (.agg #[.int .i64 k, .int .i64 c, .int .i64 n, .string s]) (.agg #[.int .i64 k', .int .i64 c', .int .i64 n', .string s'])).run Tryd.prog w = .ok (decide (k = k' ∧ c = c' ∧ n = n' ∧ s = s')) w := by
  intro w
  go_simp
  by_cases h0 : k = k'
  case neg => simp [h0]
  by_cases h1 : c = c'
  case neg => simp [h0, h1]
  by_cases h2 : n = n'
  case neg => simp [h0, h1, h2]
  by_cases h3 : s = s'
  · subst h3; simp [h0, h1, h2]
  · have := ba_ne h3
    rw [beq_eq_false_iff_ne] at this
    simp [h0, h1, h2, h3, this]
set_option maxHeartbeats 4000000 in
theorem canon_law (s : ByteArray) (a0 a1 : Addr) (w : World) (hg : GlE w a0 a1) (hs : s.size ≤ 9223372036854775807) :
    Calls Tryd.prog 6 #[.string s] w fun e w' => e = .returned (.bool true) ∧ Below w.heap.size w w' := by
  have HS := Lib.hid (sane_any a0 a1 w hg)
  have m1 : (0 : Int) ≤ min (s.size : Int) 600 ∧ min (s.size : Int) 600 ≤ (s.size : Int) := by omega
  obtain ⟨S, hS⟩ : ∃ S, S = s.extract 0 (min (s.size : Int) 600).toNat := ⟨_, rfl⟩
  have hSz : S.size ≤ 600 := by rw [hS, ByteArray.size_extract]; omega
  have HSE : Hid (s.extract 0 (min (s.size : Int) 600).toNat = S) := Lib.hid hS.symm
  have HG := Lib.hid hg; clear hg hS
  have hse := HSE.out
  by_cases hd : dcK S
  · have HD : Hid (∀ W, GlE W a0 a1 → Calls Tryd.prog 16 #[.string S] W fun e w' => e = .returned (.tuple #[.agg #[.int .i64 (fval S 0), .int .i64 (fval S 1), .int .i64 (fval S 3), .string (tailOf S)], .int .i64 0]) ∧ Below W.heap.size W w') := Lib.hid fun W hw => by
      refine (decode_any S (by omega) a0 a1 W hw).mono ?_
      rintro e w' ⟨hb, ⟨-, rfl⟩ | ⟨hn, -⟩⟩
      · exact ⟨rfl, hb⟩
      · exact absurd hd hn
    have HE : Hid (∀ W, Calls Tryd.prog 14 #[.agg #[.int .i64 (fval S 0), .int .i64 (fval S 1), .int .i64 (fval S 3), .string (tailOf S)]] W fun e w' => e = .returned (.tuple #[.string S, .int .i64 0]) ∧ Below W.heap.size W w') := Lib.hid fun W => by
      have := encode_ok _ _ _ _ W hd.2.1
      rwa [hd.2.2] at this
    have htl : (tailOf S).size ≤ 600 := by unfold tailOf; rw [ByteArray.size_extract]; omega
    have HV : Hid (∀ W, Calls Tryd.prog 20 #[.agg #[.int .i64 (fval S 0), .int .i64 (fval S 1), .int .i64 (fval S 3), .string (tailOf S)]] W fun e w' => e = .returned (.bool true) ∧ Below W.heap.size W w') := Lib.hid fun W => by
      have := valid_any (fval S 0) (fval S 1) (fval S 3) (tailOf S) W (by omega)
      rwa [show mokB (fval S 0) (fval S 1) (fval S 3) (tailOf S).size = true from decide_eq_true hd.2.1] at this
    have HDK := Lib.hid hd; clear hd htl
    generalize fval S 0 = f0 at *
    generalize fval S 1 = f1 at *
    generalize fval S 3 = f3 at *
    generalize tailOf S = tl at *
    go_enter Tryd.func6, Tryd.ntmps6
    go_wp2_with (first | (go_at_call 13; (with_reducible refine (HS.out).mono ?_); rintro e w1 ⟨rfl, hb1⟩) | (go_at_call 16; (with_reducible refine (HD.out _ (HG.out.below hb1)).mono ?_); rintro e w2 ⟨rfl, hb2⟩; have HM := Lib.hid (alloc_new w2 (.cells #[.int .i64 f0, .int .i64 f1, .int .i64 f3, .string tl] 23)); obtain ⟨⟨m0, m1_, m2, m3⟩, -⟩ := cells4 HM.out) | (go_at_call 14; (with_reducible refine (HE.out _).mono ?_); rintro e w3 ⟨rfl, hb3⟩; have HM3 := Lib.hid (bblock hb3 HM.out); obtain ⟨⟨k0, k1, k2, k3⟩, -⟩ := cells4 HM3.out) | (go_at_call 20; (with_reducible refine (HV.out _).mono ?_); rintro e w4 ⟨rfl, hb4⟩))
    go_ret
    exact ⟨rfl, below_call (below_call (below_alloc (below_call hb1 hb2)) hb3) hb4⟩
  · have HD : Hid (∀ W, GlE W a0 a1 → Calls Tryd.prog 16 #[.string S] W fun e w' => e = .returned (.tuple #[.agg #[.int .i64 0, .int .i64 0, .int .i64 0, .string ⟨#[]⟩], .int .i64 80]) ∧ Below W.heap.size W w') := Lib.hid fun W hw => by
      refine (decode_any S (by omega) a0 a1 W hw).mono ?_
      rintro e w' ⟨hb, ⟨hn, -⟩ | ⟨-, rfl⟩⟩
      · exact absurd hn hd
      · exact ⟨rfl, hb⟩
    have HDK := Lib.hid hd; clear hd
    have heq := eqMsg1 0 0 0 ⟨#[]⟩ 0 0 0 ⟨#[]⟩
    rw [decide_eq_true (by exact ⟨rfl, rfl, rfl, rfl⟩)] at heq
    go_enter Tryd.func6, Tryd.ntmps6
    go_wp2_with (first | (go_at_call 13; (with_reducible refine (HS.out).mono ?_); rintro e w1 ⟨rfl, hb1⟩) | (go_at_call 16; (with_reducible refine (HD.out _ (HG.out.below hb1)).mono ?_); rintro e w2 ⟨rfl, hb2⟩; have HM := Lib.hid (alloc_new w2 (.cells #[.int .i64 0, .int .i64 0, .int .i64 0, .string ⟨#[]⟩] 23)); obtain ⟨⟨m0, m1_, m2, m3⟩, -⟩ := cells4 HM.out))
    go_ret
    exact ⟨rfl, below_alloc (below_call hb1 hb2)⟩
end Go.Proofs.YtmcfllogcmnnoaaDoor.Ic
