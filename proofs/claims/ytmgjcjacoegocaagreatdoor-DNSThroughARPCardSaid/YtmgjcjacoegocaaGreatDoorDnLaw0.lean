/-
  The contracts of package dns with their cells laid open, for the laws of chapter 19.
-/
import Derived.Test.YtmgjcjacoegocaaGreatDoorDnEx
import Derived.Test.YtmgjcjacoegocaaGreatDoorDnOf
import Derived.Laws.BytesArg
namespace Go.Proofs.YtmgjcjacoegocaaGreatDoor.Dn
open Go.RowKit Go.Proofs.YtmgjcjacoegocaaGreatDoor.Wire Go.Proofs.YtmgjcjacoegocaaGreatDoor.Rw

theorem ok_fits {d : Msg} (h : msgB d = true) : d.fits := by
  obtain ⟨-, h1, -, h2, h3, -⟩ := (msgB_iff d).1 h
  have := name_len h1
  refine ⟨by omega, by omega, fun r hr => ?_⟩
  have h4 := List.all_eq_true.1 h3 r hr
  unfold recB at h4
  simp only [Bool.and_eq_true, Bool.or_eq_true, decide_eq_true_eq] at h4
  have h5 := name_len h4.1.1.1
  refine ⟨by omega, ?_⟩
  rcases h4.2 with q | q
  · rw [q.2]; simp
  · have := name_len q.1.2; omega
theorem RArg.alloc {W : World} {A : Option Addr} {k : Nat} {l : List RR} (h : RArg W A k l) (o : Obj) : RArg (W.alloc o) A k l := h.below ((Below.refl W.heap.size W).alloc (Nat.le_refl _) o)
theorem conv_one (W : World) (b : Nat) (m : Int) (h : W.cell? ⟨b, 0, none⟩ = some (.int .u8 m)) : (convert 105 9 (.slice (some ⟨b, 0, none⟩) 1 1)).run Tryz.prog W = .ok (.string ⟨#[UInt8.ofNat m.toNat]⟩) W := by
  rw [run_convert_bytes_arg W 105 5 Tryz.underlying105 Tryz.underlying5 b 0 1 1 [m] rfl ?_ 9 Tryz.underlying9]
  · rfl
  · intro i hi
    obtain rfl : i = 0 := by omega
    exact h
theorem dnsL (x : DR) (Ax : Option Addr) (n cx : Nat) (W : World) (hx : x.ok) (hr : RArg W Ax n x.recs) :
    Calls Tryz.prog 8 #[.agg #[.int .i64 x.id, .bool x.ans, .int .i64 x.code, .int .i64 x.nm, .bool x.alias, .slice Ax n cx]] W fun e w' => ∃ A c, e = .returned (.agg #[.int .i64 (dnsOf x).id, .bool (dnsOf x).ans, .int .i64 (dnsOf x).code, .string ⟨(dnsOf x).nm.toArray⟩, .int .i64 (dnsOf x).kd, .slice A (dnsOf x).recs.length c]) ∧ RRow w' W.heap.size A c (dnsOf x).recs ∧ Below W.heap.size W w' := dnsOf_any x Ax n cx W hx hr
theorem encL (d : Msg) (h : msgB d = true) (A : Option Addr) (c lo : Nat) (W : World) (hr : RRow W lo A c d.recs) : Calls Tryz.prog 7 #[.agg #[.int .i64 d.id, .bool d.ans, .int .i64 d.code, .string ⟨d.nm.toArray⟩, .int .i64 d.kd, .slice A d.recs.length c]] W fun e w' => e = .returned (.tuple #[.string ⟨(enc d).toArray⟩, .int .i64 0]) ∧ Below W.heap.size W w' := encode_ok d A c lo W (ok_fits h) hr h
theorem encN (d : Msg) (hf : d.fits) (h : msgB d = false) (A : Option Addr) (c lo : Nat) (W : World) (hr : RRow W lo A c d.recs) : Calls Tryz.prog 7 #[.agg #[.int .i64 d.id, .bool d.ans, .int .i64 d.code, .string ⟨d.nm.toArray⟩, .int .i64 d.kd, .slice A d.recs.length c]] W fun e w' => e = .returned (.tuple #[.string ⟨#[]⟩, .int .i64 190]) ∧ Below W.heap.size W w' := encode_no d A c lo W hf hr h
theorem decL (d : Msg) (h : msgB d = true) (W : World) : Calls Tryz.prog 18 #[.string ⟨(enc d).toArray⟩] W fun e w' => (∃ A c, e = .returned (.tuple #[.agg #[.int .i64 d.id, .bool d.ans, .int .i64 d.code, .string ⟨d.nm.toArray⟩, .int .i64 d.kd, .slice A d.recs.length c], .int .i64 0]) ∧ RRow w' W.heap.size A c d.recs) ∧ Below W.heap.size W w' :=
  (decode_any ⟨(enc d).toArray⟩ W (by show (enc d).length ≤ _; have := enc_len d h; omega)).mono fun e w' h2 => by
    have hd : decD (⟨(enc d).toArray⟩ : ByteArray).data.toList = some d := decD_enc d h
    obtain ⟨hb, ⟨h1, -⟩ | ⟨d', A, c, h1, h2, -, h4⟩⟩ := h2
    · rw [hd] at h1; cases h1
    · rw [hd] at h1; cases h1; exact ⟨⟨A, c, h2, h4⟩, hb⟩
theorem decN (s : ByteArray) (hs : s.size ≤ 1000000) (h : decD s.data.toList = none) (W : World) : Calls Tryz.prog 18 #[.string s] W fun e w' => e = .returned (.tuple #[.agg #[.int .i64 0, .bool false, .int .i64 0, .string ⟨#[]⟩, .int .i64 0, .slice none 0 0], .int .i64 190]) ∧ Below W.heap.size W w' :=
  (decode_any s W hs).mono fun e w' h2 => by
    obtain ⟨hb, ⟨-, h2⟩ | ⟨d', A, c, h1, -⟩⟩ := h2
    · exact ⟨h2, hb⟩
    · rw [h] at h1; cases h1
theorem validL (d : Msg) (hf : d.fits) (A : Option Addr) (c lo : Nat) (W : World) (hr : RRow W lo A c d.recs) : Calls Tryz.prog 28 #[.agg #[.int .i64 d.id, .bool d.ans, .int .i64 d.code, .string ⟨d.nm.toArray⟩, .int .i64 d.kd, .slice A d.recs.length c]] W fun e w' => e = .returned (.bool (msgB d)) ∧ Below W.heap.size W w' := valid_any d A c lo W hf hr
theorem sameL (a b : Msg) (ha : a.recs.length ≤ 1000000) (hb : b.recs.length ≤ 1000000) (A1 A2 : Option Addr) (c1 c2 lo1 lo2 : Nat) (W : World) (hr1 : RRow W lo1 A1 c1 a.recs) (hr2 : RRow W lo2 A2 c2 b.recs) :
    Calls Tryz.prog 29 #[.agg #[.int .i64 a.id, .bool a.ans, .int .i64 a.code, .string ⟨a.nm.toArray⟩, .int .i64 a.kd, .slice A1 a.recs.length c1], .agg #[.int .i64 b.id, .bool b.ans, .int .i64 b.code, .string ⟨b.nm.toArray⟩, .int .i64 b.kd, .slice A2 b.recs.length c2]] W fun e w' => e = .returned (.bool (decide (a = b))) ∧ Below W.heap.size W w' := same_any a b A1 A2 c1 c2 lo1 lo2 W ha hb hr1 hr2
theorem rsameL (a b : Msg) (ha : a.recs.length ≤ 1000000) (hb : b.recs.length ≤ 1000000) (A1 A2 : Option Addr) (c1 c2 lo1 lo2 : Nat) (W : World) (hr1 : RRow W lo1 A1 c1 a.recs) (hr2 : RRow W lo2 A2 c2 b.recs) :
    Calls Tryz.prog 19 #[.agg #[.int .i64 a.id, .bool a.ans, .int .i64 a.code, .string ⟨a.nm.toArray⟩, .int .i64 a.kd, .slice A1 a.recs.length c1], .agg #[.int .i64 b.id, .bool b.ans, .int .i64 b.code, .string ⟨b.nm.toArray⟩, .int .i64 b.kd, .slice A2 b.recs.length c2]] W fun e w' => e = .returned (.bool (decide (a = b))) ∧ Below W.heap.size W w' := rsame_any a b A1 A2 c1 c2 lo1 lo2 W ha hb hr1 hr2
theorem ok_recs {d : Msg} (h : msgB d = true) : d.recs.length ≤ 1000000 := (ok_fits h).2.1
end Go.Proofs.YtmgjcjacoegocaaGreatDoor.Dn
