/-
  A call, and a list of calls, as an argument.
-/
import Derived.Test.YtjdoemmfemogmaaArMsg
import Derived.Test.YtjdoemmfemogmaaRows
import Derived.Deep.SlicePairs
import Derived.ChangeArms
import Derived.OpenShut
namespace Go.Proofs.Ytjdoemmfemogmaa.Ar
set_option maxRecDepth 100000
open Go.RowKit Go.Proofs.Ytjdoemmfemogmaa.Wire Go.Deep Go.ChangeShapes Go.WideShapes

def Cl.ok (x : Cl) : Prop := x.kd < 256 ∧ In64 x.ad ∧ In64 x.mc ∧ In64 x.to_ ∧ In64 x.op ∧ x.s.size ≤ 9223372036854775807 ∧ In64 x.ti ∧ In64 x.a0 ∧ In64 x.a1 ∧ In64 x.a2 ∧ In64 x.a3 ∧ In64 x.a4
def Cl.cells (x : Cl) : List Value := [.int .u8 ((x.kd : Nat) : Int), .int .i64 x.ad, .int .i64 x.mc, .int .i64 x.to_, .int .i64 x.op, .string x.s, .int .i64 x.ti, .int .i64 x.a0, .int .i64 x.a1, .int .i64 x.a2, .int .i64 x.a3, .int .i64 x.a4]
theorem trod_call {H : Type} {enc : TypeId × Value → H} {W : World} {base : Nat} {spare : Nat → Bool} {held : Bool} {n : Nat} {v0 v1 v2 v3 v4 v5 v6 v7 v8 v9 v10 v11 : Value} {y : DataW H × List MemPlace}
    (h : DataW.trod enc Try.prog W base spare held n 25 [v0, v1, v2, v3, v4, v5, v6, v7, v8, v9, v10, v11] = some y) : ∃ x : Cl, x.ok ∧ [v0, v1, v2, v3, v4, v5, v6, v7, v8, v9, v10, v11] = x.cells := by
  have c_int : Try.prog.cellsOf 3 = 1 := by kernel_rfl
  have c_u8 : Try.prog.cellsOf 5 = 1 := by kernel_rfl
  have c_str : Try.prog.cellsOf 9 = 1 := by kernel_rfl
  have c_arp : Try.prog.cellsOf 23 = 5 := by kernel_rfl
  obtain ⟨xs, k, hk, hxy, _, hxl, hf⟩ := DataW.trod_struct Try.underlying25 h
  match xs, hxl with
  | [y0, y1, y2, y3, y4, y5, y6, y7], _ =>
    have g0 := hf 0 _ rfl
    have g1 := hf 1 _ rfl
    have g2 := hf 2 _ rfl
    have g3 := hf 3 _ rfl
    have g4 := hf 4 _ rfl
    have g5 := hf 5 _ rfl
    have g6 := hf 6 _ rfl
    have g7 := hf 7 _ rfl
    simp [c_int, c_u8, c_str, c_arp] at g0 g1 g2 g3 g4 g5 g6 g7
    obtain ⟨zs, k2, hk2, hxy2, _, hxl2, hf2⟩ := DataW.trod_struct Try.underlying23 g7
    match zs, hxl2 with
    | [z0, z1, z2, z3, z4], _ =>
      have m0 := hf2 0 _ rfl
      have m1 := hf2 1 _ rfl
      have m2 := hf2 2 _ rfl
      have m3 := hf2 3 _ rfl
      have m4 := hf2 4 _ rfl
      simp [c_int] at m0 m1 m2 m3 m4
      obtain ⟨b0, q0, -, w0⟩ := DataW.trod_int Try.underlying5 g0
      obtain ⟨b5, q5, -, w5⟩ := DataW.trod_string Try.underlying9 g5
      obtain ⟨b1, q1, -, w1⟩ := DataW.trod_int Try.underlying3 g1
      obtain ⟨b2, q2, -, w2⟩ := DataW.trod_int Try.underlying3 g2
      obtain ⟨b3, q3, -, w3⟩ := DataW.trod_int Try.underlying3 g3
      obtain ⟨b4, q4, -, w4⟩ := DataW.trod_int Try.underlying3 g4
      obtain ⟨b6, q6, -, w6⟩ := DataW.trod_int Try.underlying3 g6
      obtain ⟨b7, q7, -, w7⟩ := DataW.trod_int Try.underlying3 m0
      obtain ⟨b8, q8, -, w8⟩ := DataW.trod_int Try.underlying3 m1
      obtain ⟨b9, q9, -, w9⟩ := DataW.trod_int Try.underlying3 m2
      obtain ⟨b10, q10, -, w10⟩ := DataW.trod_int Try.underlying3 m3
      obtain ⟨b11, q11, -, w11⟩ := DataW.trod_int Try.underlying3 m4
      simp only [List.cons.injEq, and_true] at q0 q1 q2 q3 q4 q5 q6 q7 q8 q9 q10 q11
      subst q0 q1 q2 q3 q4 q5 q6 q7 q8 q9 q10 q11
      have bb := bounds_u8 w0
      obtain ⟨kd, hkd⟩ := Int.eq_ofNat_of_zero_le bb.1
      subst hkd
      exact ⟨⟨kd, b1, b2, b3, b4, b5, b6, b7, b8, b9, b10, b11⟩, ⟨by show kd < 256; omega, bounds_i64 w1, bounds_i64 w2, bounds_i64 w3, bounds_i64 w4, by have := w5; unfold maxLen at this; exact this, bounds_i64 w6, bounds_i64 w7, bounds_i64 w8, bounds_i64 w9, bounds_i64 w10, bounds_i64 w11⟩, rfl⟩
theorem open_call {H : Type} {enc : TypeId × Value → H} {w : World} {base : Nat} {spare : Nat → Bool} {held : Bool} {r : Reach} {b0 : Nat} {v : Value} {d : DataW H} {p : List MemPlace}
    (hv : Value.okWide Try.prog w r b0 25 v) (h : DataW.Trod enc Try.prog w base spare held 25 v d p) : ∃ x : Cl, x.ok ∧ v = .agg #[.int .u8 ((x.kd : Nat) : Int), .int .i64 x.ad, .int .i64 x.mc, .int .i64 x.to_, .int .i64 x.op, .string x.s, .int .i64 x.ti, .int .i64 x.a0, .int .i64 x.a1, .int .i64 x.a2, .int .i64 x.a3, .int .i64 x.a4] := by
  obtain ⟨cs, rfl, hsz⟩ := okWide_struct Try.underlying25 hv
  have hC : Try.prog.cellsOf 25 = 12 := by kernel_rfl
  obtain ⟨l⟩ := cs
  match l, hsz.trans hC with
  | [c0, c1, c2, c3, c4, c5, c6, c7, c8, c9, c10, c11], _ =>
    obtain ⟨fuel, hf⟩ := h
    obtain ⟨x, hx, e⟩ := trod_call hf
    refine ⟨x, hx, ?_⟩
    unfold Cl.cells at e
    rw [← e]
end Go.Proofs.Ytjdoemmfemogmaa.Ar
