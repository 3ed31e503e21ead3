/-
  The contract of the reference's Len of chapter 11; the contracts of both Encodes by one segment.
-/
import Derived.Test.YtkinlmanimdlcaaSgRe
import Derived.Test.YtkinlmanimdlcaaSgSame4
namespace Go.Proofs.Ytkinlmanimdlcaa.Sg
open Go.RowKit Go.Proofs.Ytkinlmanimdlcaa.Wire

set_option maxHeartbeats 400000 in
theorem rlen_any (fp tp sq ack : Int) (syn fin rst ha : Bool) (win mss : Int) (sacks : Bool) (A : Option Addr) (n c : Nat) (s : ByteArray) (w : World) (hs : s.size ≤ 1000000) :
    Calls Try.prog 21 #[.agg #[.int .i64 fp, .int .i64 tp, .int .i64 sq, .int .i64 ack, .bool syn, .bool fin, .bool rst, .bool ha, .int .i64 win, .int .i64 mss, .bool sacks, .slice A n c, .string s]] w fun e w' => e = .returned (.int .i64 (if syn || fin then (s.size : Int) + 1 else (s.size : Int))) ∧ Below w.heap.size w w' := by
  cases syn <;> cases fin
  all_goals
    go_enter Try.func21, Try.ntmps21
    go_wp2
    go_ret
    exact ⟨rfl, (Below.refl _ _).alloc (Nat.le_refl _) _⟩
/-- what both Encodes return -/
def encV (f d : Int) (x : Seg) : Value := if Adr f ∧ Adr d then (if x.ok then .tuple #[.string ⟨(x.enc f d).toArray⟩, .int .i64 0] else .tuple #[.string ⟨#[]⟩, .int .i64 110]) else .tuple #[.string ⟨#[]⟩, .int .i64 30]
theorem encV_any (f d : Int) (x : Seg) (A : Option Addr) (c : Nat) (w : World) (hn : x.bl.length ≤ 9223372036854775807) (hb : Bks w A x.bl.length x.bl) :
    Calls Try.prog 14 #[.int .i64 f, .int .i64 d, x.val A c] w fun e w' => e = .returned (encV f d x) ∧ Below w.heap.size w w' := by
  unfold encV
  by_cases h : Adr f ∧ Adr d
  · rw [if_pos h]
    by_cases hx : x.ok
    · rw [if_pos hx]; exact enc_ok f d x A c w h.1 h.2 hx hb
    · rw [if_neg hx]; exact enc_no f d x A c w hn h.1 h.2 hx hb
  · rw [if_neg h]
    exact Encode_noaddr f d x.fp x.tp x.sq x.ack x.syn x.fin x.rst x.ha x.win x.mss x.sacks A x.bl.length c x.s w h
theorem rencV_any (f d : Int) (x : Seg) (A : Option Addr) (c : Nat) (w : World) (hn : x.bl.length ≤ 9223372036854775807) (hb : Bks w A x.bl.length x.bl) :
    Calls Try.prog 15 #[.int .i64 f, .int .i64 d, x.val A c] w fun e w' => e = .returned (encV f d x) ∧ Below w.heap.size w w' := by
  unfold encV
  by_cases h : Adr f ∧ Adr d
  · rw [if_pos h]
    by_cases hx : x.ok
    · rw [if_pos hx]; exact REncode_ok f d x.fp x.tp x.sq x.ack x.syn x.fin x.rst x.ha x.win x.mss x.sacks A x.bl.length c x.bl x.s w h.1 h.2 hx hb
    · rw [if_neg hx]; exact REncode_noseg f d x.fp x.tp x.sq x.ack x.syn x.fin x.rst x.ha x.win x.mss x.sacks A x.bl.length c x.bl x.s w hn h.1 h.2 hx hb
  · rw [if_neg h]
    exact REncode_noaddr f d x.fp x.tp x.sq x.ack x.syn x.fin x.rst x.ha x.win x.mss x.sacks A x.bl.length c x.s w h
/-- as two results -/
theorem encV_two (f d : Int) (x : Seg) : ∃ (t : ByteArray) (e : Int), encV f d x = .tuple #[.string t, .int .i64 e] := by
  unfold encV
  split
  · split
    · exact ⟨_, _, rfl⟩
    · exact ⟨_, _, rfl⟩
  · exact ⟨_, _, rfl⟩
end Go.Proofs.Ytkinlmanimdlcaa.Sg
