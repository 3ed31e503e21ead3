/-
  Same, and what Encode, Valid and Fragment and their references return alike at every datagram.
-/
import Derived.Test.YtabfihknhbfjeaaLaw06f
import Derived.Test.YtabfihknhbfjeaaFrag4
import Derived.Test.YtabfihknhbfjeaaRef06
import Derived.Deep.QuietTactic
import Derived.BigQuiet
import Derived.Outline
namespace Go.Proofs.Ytabfihknhbfjeaa.Ip
open Go.RowKit Go.Proofs.Ytabfihknhbfjeaa.Wire Go.Proofs.Ytabfihknhbfjeaa.Gen

/-- v is a slice that holds the datagrams l -/
def RowVal (W : World) (v : Value) (l : List Pk) : Prop := (v = .slice none 0 0 ∧ l = []) ∨ ∃ g cap, v = .slice (some ⟨g, 0, none⟩) l.length cap ∧ PkRow W g l
theorem RowVal.below {W w1 : World} {v : Value} {l : List Pk} (hb : Below W.heap.size W w1) (h : RowVal W v l) : RowVal w1 v l := by
  rcases h with h | ⟨g, cap, h1, h2⟩
  · exact .inl h
  · exact .inr ⟨g, cap, h1, h2.below hb⟩
theorem rowVal_of {W : World} {base : Nat} {v : Value} {l : List Pk} (h : W.ownsRow base 26 9 v l.length (pkCells l)) : RowVal W v l := by
  rcases h.2 with ⟨hv, h0⟩ | ⟨g, cap, cur, hv, hb, hg, -, -, -, hk⟩
  · exact .inl ⟨hv, List.eq_nil_of_length_eq_zero h0⟩
  · exact .inr ⟨g, cap, hv, cur, hg, hk⟩
set_option maxRecDepth 100000 in
set_option maxHeartbeats 1000000 in
theorem same_nil (a b : Option Addr) (c d : Nat) (w : World) :
    Calls Try.prog 18 #[.slice a 0 c, .slice b 0 d] w fun e w' => e = .returned (.bool true) ∧ Below w.heap.size w w' := by
  go_enter Try.func18, Try.ntmps18
  go_wp2
  refine wp_loop_rounds 1 ?_; rw [rounds_succ]
  go_wp2
  go_ret
  exact ⟨rfl, Below.refl _ _⟩
set_option maxRecDepth 100000 in
set_option maxHeartbeats 1000000 in
theorem same_row (g g2 cap cap2 : Nat) (l : List Pk) (w : World) (hl : l.length ≤ 100000) (h : PkRow w g l) (h2 : PkRow w g2 l) :
    Calls Try.prog 18 #[.slice (some ⟨g, 0, none⟩) l.length cap, .slice (some ⟨g2, 0, none⟩) l.length cap2] w fun e w' => e = .returned (.bool true) ∧ Below w.heap.size w w' := by
  have H := Lib.hid h; have H2 := Lib.hid h2; clear h h2
  have hLL : ((l.length : Int) != (l.length : Int)) = false := by simp
  generalize hLn : l.length = Ln at *
  have HLn := Lib.hid hLn; clear hLn
  go_enter Try.func18, Try.ntmps18
  go_wp2
  go_loopw [5] (fun i wr => ∃ k : Nat, k ≤ Ln ∧ i = .int .i64 (k : Int) ∧ Below w.heap.size w wr) (fun i _ => Ln - (intOf i).toNat)
  case atStart => exact ⟨0, by omega, rfl, Below.refl _ _⟩
  case round =>
    obtain ⟨k, hk, rfl, HB⟩ := hrel
    by_cases hlt : k < Ln
    · have hlt2 : k < l.length := by rw [HLn.out]; exact hlt
      obtain ⟨q, hq⟩ : ∃ q, l[k]? = some q := ⟨l[k], List.getElem?_eq_getElem hlt2⟩
      clear hlt2
      obtain ⟨r0, r1, r2, r3, r4, r5, r6, r7, r8⟩ := (H.out.below HB).cells k q hq
      obtain ⟨t0, t1, t2, t3, t4, t5, t6, t7, t8⟩ := (H2.out.below HB).cells k q hq
      have g3 : (0 : Int) ≤ (k : Int) := by omega
      have g4 : (k : Int) < (Ln : Int) := by omega
      clear hq
      go_wp2_with fail
      go_quiet (fail)
      go_wp2_with fail
      go_roundw
      case rel => exact ⟨k + 1, by omega, by go_num, below_drewN HB _⟩
      case measure => simp [intOf]; omega
    · go_wp2_with fail
      go_ret
      exact ⟨rfl, HB⟩
theorem same_any (u v : Value) (l : List Pk) (w : World) (hl : l.length ≤ 100000) (h : RowVal w u l) (h2 : RowVal w v l) :
    Calls Try.prog 18 #[u, v] w fun e w' => e = .returned (.bool true) ∧ Below w.heap.size w w' := by
  rcases h with ⟨rfl, rfl⟩ | ⟨g, cap, rfl, h⟩
  · rcases h2 with ⟨rfl, -⟩ | ⟨g, cap, rfl, h2⟩
    · exact same_nil none none 0 0 w
    · exact same_nil none (some ⟨g, 0, none⟩) 0 cap w
  · rcases h2 with ⟨rfl, rfl⟩ | ⟨g2, cap2, rfl, h2⟩
    · exact same_nil (some ⟨g, 0, none⟩) none cap 0 w
    · exact same_row g g2 cap cap2 l w hl h h2
theorem enc_both (p : Pk) (hs : p.s.size ≤ 1000000) : ∃ (E : ByteArray) (n : Int),
    Hid (∀ w, Calls Try.prog 11 #[.agg #[.int .i64 p.f, .int .i64 p.t, .int .i64 p.pr, .int .i64 p.ttl, .int .i64 p.id, .bool p.df, .bool p.mf, .int .i64 p.off, .string p.s]] w fun e w' => e = .returned (.tuple #[.string E, .int .i64 n]) ∧ Below w.heap.size w w') ∧
    Hid (∀ w, Calls Try.prog 12 #[.agg #[.int .i64 p.f, .int .i64 p.t, .int .i64 p.pr, .int .i64 p.ttl, .int .i64 p.id, .bool p.df, .bool p.mf, .int .i64 p.off, .string p.s]] w fun e w' => e = .returned (.tuple #[.string E, .int .i64 n]) ∧ Below w.heap.size w w') := by
  by_cases h : VLen p.f p.t p.pr p.ttl p.id p.df p.mf p.off p.s.size
  · exact ⟨_, 0, Lib.hid fun w => Encode_ok _ _ _ _ _ _ _ _ _ w h, Lib.hid fun w => rEncode_ok _ _ _ _ _ _ _ _ _ w h⟩
  · exact ⟨_, 60, Lib.hid fun w => Encode_no _ _ _ _ _ _ _ _ _ w (by omega) h, Lib.hid fun w => rEncode_no _ _ _ _ _ _ _ _ _ w hs h⟩
theorem valid_both (p : Pk) (hs : p.s.size ≤ 1000000) : ∃ b : Bool,
    Hid (∀ w, Calls Try.prog 13 #[.agg #[.int .i64 p.f, .int .i64 p.t, .int .i64 p.pr, .int .i64 p.ttl, .int .i64 p.id, .bool p.df, .bool p.mf, .int .i64 p.off, .string p.s]] w fun e w' => e = .returned (.bool b) ∧ Below w.heap.size w w') ∧
    Hid (∀ w, Calls Try.prog 14 #[.agg #[.int .i64 p.f, .int .i64 p.t, .int .i64 p.pr, .int .i64 p.ttl, .int .i64 p.id, .bool p.df, .bool p.mf, .int .i64 p.off, .string p.s]] w fun e w' => e = .returned (.bool b) ∧ Below w.heap.size w w') :=
  ⟨_, Lib.hid fun w => valid_any _ _ _ _ _ _ _ _ _ w (by omega), Lib.hid fun w => rvalid_any _ _ _ _ _ _ _ _ _ w hs⟩
theorem frag_len (p : Pk) (n : Int) : (fragList p n).length ≤ 100000 := by
  unfold fragList
  split
  · simp
  split
  · simp
  split
  · simp
  split
  · simp
  · rename_i h1 h2 h3 h4
    rw [frags_length]
    have h5 : p.s.size ≤ 4000 := by
      have := Classical.not_not.1 h1
      unfold VLen at this; omega
    have := count_le p (fragN n) (by unfold fragN; omega)
    omega
theorem frag_both (p : Pk) (hs : p.s.size ≤ 1000000) (n : Int) (hn : In64 n) : ∃ (l : List Pk) (r : Int), l.length ≤ 100000 ∧
    Hid (∀ w, Calls Try.prog 16 #[.agg #[.int .i64 p.f, .int .i64 p.t, .int .i64 p.pr, .int .i64 p.ttl, .int .i64 p.id, .bool p.df, .bool p.mf, .int .i64 p.off, .string p.s], .int .i64 n] w fun e w' => (∃ v, e = .returned (.tuple #[v, .int .i64 r]) ∧ RowVal w' v l) ∧ Below w.heap.size w w') ∧
    Hid (∀ w, Calls Try.prog 17 #[.agg #[.int .i64 p.f, .int .i64 p.t, .int .i64 p.pr, .int .i64 p.ttl, .int .i64 p.id, .bool p.df, .bool p.mf, .int .i64 p.off, .string p.s], .int .i64 n] w fun e w' => (∃ v, e = .returned (.tuple #[v, .int .i64 r]) ∧ RowVal w' v l) ∧ Below w.heap.size w w') := by
  refine ⟨fragList p n, fragErr p n, frag_len p n, Lib.hid fun w => (Fragment_any p n w hs).mono ?_, Lib.hid fun w => (rFragment_any p n w hs hn.2).mono ?_⟩
  · rintro e w' ⟨v, rfl, h, hb⟩
    exact ⟨⟨v, rfl, rowVal_of h⟩, hb⟩
  · rintro e w' ⟨v, rfl, h, hb⟩
    exact ⟨⟨v, rfl, rowVal_of h⟩, hb⟩
end Go.Proofs.Ytabfihknhbfjeaa.Ip
