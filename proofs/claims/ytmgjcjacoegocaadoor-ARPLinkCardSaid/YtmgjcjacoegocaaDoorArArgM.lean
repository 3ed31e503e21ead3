/-
  A call, a slice of calls as arguments (two texts in one).
-/
import Derived.Test.YtmgjcjacoegocaaDoorArMsg
import Derived.Test.YtmgjcjacoegocaaDoorRows
import Derived.Deep.SlicePairs
import Derived.ChangeArms
import Derived.OpenShut
namespace Go.Proofs.YtmgjcjacoegocaaDoor.Ar
set_option maxRecDepth 100000
open Go.RowKit Go.Proofs.YtmgjcjacoegocaaDoor.Wire Go.Deep Go.ChangeShapes Go.WideShapes

def Cl.ok (x : Cl) : Prop := x.kd < 256 ∧ In64 x.ad ∧ In64 x.mc ∧ In64 x.to_ ∧ In64 x.op ∧ x.s.size ≤ 9223372036854775807 ∧ In64 x.ti ∧ In64 x.a0 ∧ In64 x.a1 ∧ In64 x.a2 ∧ In64 x.a3 ∧ In64 x.a4
def Cl.cells (x : Cl) : List Value := [.int .u8 ((x.kd : Nat) : Int), .int .i64 x.ad, .int .i64 x.mc, .int .i64 x.to_, .int .i64 x.op, .string x.s, .int .i64 x.ti, .int .i64 x.a0, .int .i64 x.a1, .int .i64 x.a2, .int .i64 x.a3, .int .i64 x.a4]
theorem trod_call {H : Type} {enc : TypeId × Value → H} {W : World} {base : Nat} {spare : Nat → Bool} {held : Bool} {n : Nat} {v0 v1 v2 v3 v4 v5 v6 v7 v8 v9 v10 v11 : Value} {y : DataW H × List MemPlace}
    (h : DataW.trod enc Tryd.prog W base spare held n 65 [v0, v1, v2, v3, v4, v5, v6, v7, v8, v9, v10, v11] = some y) : ∃ x : Cl, x.ok ∧ [v0, v1, v2, v3, v4, v5, v6, v7, v8, v9, v10, v11] = x.cells := by
  have c_int : Tryd.prog.cellsOf 3 = 1 := by kernel_rfl
  have c_u8 : Tryd.prog.cellsOf 5 = 1 := by kernel_rfl
  have c_str : Tryd.prog.cellsOf 9 = 1 := by kernel_rfl
  have c_arp : Tryd.prog.cellsOf 52 = 5 := by kernel_rfl
  obtain ⟨xs, k, hk, hxy, _, hxl, hf⟩ := DataW.trod_struct Tryd.underlying65 h
  match xs, hxl with
  | [y0, y1, y2, y3, y4, y5, y6, y7], _ =>
    have g0 := hf 0 _ rfl
    have g1 := hf 1 _ rfl
    have g2 := hf 2 _ rfl
    have g3 := hf 3 _ rfl
    have g4 := hf 4 _ rfl
    have g5 := hf 5 _ rfl
    have g6 := hf 6 _ rfl
    have g7 := hf 7 _ rfl
    simp [c_int, c_u8, c_str, c_arp] at g0 g1 g2 g3 g4 g5 g6 g7
    obtain ⟨zs, k2, hk2, hxy2, _, hxl2, hf2⟩ := DataW.trod_struct Tryd.underlying52 g7
    match zs, hxl2 with
    | [z0, z1, z2, z3, z4], _ =>
      have m0 := hf2 0 _ rfl
      have m1 := hf2 1 _ rfl
      have m2 := hf2 2 _ rfl
      have m3 := hf2 3 _ rfl
      have m4 := hf2 4 _ rfl
      simp [c_int] at m0 m1 m2 m3 m4
      obtain ⟨b0, q0, -, w0⟩ := DataW.trod_int Tryd.underlying5 g0
      obtain ⟨b5, q5, -, w5⟩ := DataW.trod_string Tryd.underlying9 g5
      obtain ⟨b1, q1, -, w1⟩ := DataW.trod_int Tryd.underlying3 g1
      obtain ⟨b2, q2, -, w2⟩ := DataW.trod_int Tryd.underlying3 g2
      obtain ⟨b3, q3, -, w3⟩ := DataW.trod_int Tryd.underlying3 g3
      obtain ⟨b4, q4, -, w4⟩ := DataW.trod_int Tryd.underlying3 g4
      obtain ⟨b6, q6, -, w6⟩ := DataW.trod_int Tryd.underlying3 g6
      obtain ⟨b7, q7, -, w7⟩ := DataW.trod_int Tryd.underlying3 m0
      obtain ⟨b8, q8, -, w8⟩ := DataW.trod_int Tryd.underlying3 m1
      obtain ⟨b9, q9, -, w9⟩ := DataW.trod_int Tryd.underlying3 m2
      obtain ⟨b10, q10, -, w10⟩ := DataW.trod_int Tryd.underlying3 m3
      obtain ⟨b11, q11, -, w11⟩ := DataW.trod_int Tryd.underlying3 m4
      simp only [List.cons.injEq, and_true] at q0 q1 q2 q3 q4 q5 q6 q7 q8 q9 q10 q11
      subst q0 q1 q2 q3 q4 q5 q6 q7 q8 q9 q10 q11
      have bb := bounds_u8 w0
      obtain ⟨kd, hkd⟩ := Int.eq_ofNat_of_zero_le bb.1
      subst hkd
      exact ⟨⟨kd, b1, b2, b3, b4, b5, b6, b7, b8, b9, b10, b11⟩, ⟨by show kd < 256; omega, bounds_i64 w1, bounds_i64 w2, bounds_i64 w3, bounds_i64 w4, by have := w5; unfold maxLen at this; exact this, bounds_i64 w6, bounds_i64 w7, bounds_i64 w8, bounds_i64 w9, bounds_i64 w10, bounds_i64 w11⟩, rfl⟩
theorem open_call {H : Type} {enc : TypeId × Value → H} {w : World} {base : Nat} {spare : Nat → Bool} {held : Bool} {r : Reach} {b0 : Nat} {v : Value} {d : DataW H} {p : List MemPlace}
    (hv : Value.okWide Tryd.prog w r b0 65 v) (h : DataW.Trod enc Tryd.prog w base spare held 65 v d p) : ∃ x : Cl, x.ok ∧ v = .agg #[.int .u8 ((x.kd : Nat) : Int), .int .i64 x.ad, .int .i64 x.mc, .int .i64 x.to_, .int .i64 x.op, .string x.s, .int .i64 x.ti, .int .i64 x.a0, .int .i64 x.a1, .int .i64 x.a2, .int .i64 x.a3, .int .i64 x.a4] := by
  obtain ⟨cs, rfl, hsz⟩ := okWide_struct Tryd.underlying65 hv
  have hC : Tryd.prog.cellsOf 65 = 12 := by kernel_rfl
  obtain ⟨l⟩ := cs
  match l, hsz.trans hC with
  | [c0, c1, c2, c3, c4, c5, c6, c7, c8, c9, c10, c11], _ =>
    obtain ⟨fuel, hf⟩ := h
    obtain ⟨x, hx, e⟩ := trod_call hf
    refine ⟨x, hx, ?_⟩
    unfold Cl.cells at e
    rw [← e]
end Go.Proofs.YtmgjcjacoegocaaDoor.Ar

namespace Go.Proofs.YtmgjcjacoegocaaDoor.Ar
set_option maxRecDepth 100000
open Go.RowKit Go.Proofs.YtmgjcjacoegocaaDoor.Wire Go.Deep Go.ChangeShapes Go.WideShapes

instance : Inhabited Cl := ⟨⟨0, 0, 0, 0, 0, ⟨#[]⟩, 0, 0, 0, 0, 0, 0⟩⟩
/-- the slice at A of k calls came in; it holds the list l -/
def ArgC (W : World) (A : Option Addr) (k : Nat) (l : List Cl) : Prop :=
  l.length = k ∧ k ≤ maxLen ∧ (∀ x ∈ l, x.ok) ∧ (0 < k → ∃ b o, A = some ⟨b, o, none⟩ ∧ b < W.heap.size ∧ ∀ (i : Nat) (x : Cl), l[i]? = some x → ∀ (j : Nat) (u : Value), x.cells[j]? = some u → W.cell? ⟨b, o + i * 12 + j, none⟩ = some u)
theorem ArgC.at_ {W : World} {A : Option Addr} {k : Nat} {l : List Cl} (h : ArgC W A k l) (i : Nat) (hi : i < k) : ∃ b o x, A = some ⟨b, o, none⟩ ∧ l[i]? = some x ∧ b < W.heap.size ∧ x.ok ∧
    W.cell? ⟨b, o + i * 12, none⟩ = some (.int .u8 ((x.kd : Nat) : Int)) ∧ W.cell? ⟨b, o + i * 12 + 1, none⟩ = some (.int .i64 x.ad) ∧ W.cell? ⟨b, o + i * 12 + 2, none⟩ = some (.int .i64 x.mc) ∧ W.cell? ⟨b, o + i * 12 + 3, none⟩ = some (.int .i64 x.to_) ∧ W.cell? ⟨b, o + i * 12 + 4, none⟩ = some (.int .i64 x.op) ∧ W.cell? ⟨b, o + i * 12 + 5, none⟩ = some (.string x.s) ∧ W.cell? ⟨b, o + i * 12 + 6, none⟩ = some (.int .i64 x.ti) ∧ W.cell? ⟨b, o + i * 12 + 7, none⟩ = some (.int .i64 x.a0) ∧ W.cell? ⟨b, o + i * 12 + 8, none⟩ = some (.int .i64 x.a1) ∧ W.cell? ⟨b, o + i * 12 + 9, none⟩ = some (.int .i64 x.a2) ∧ W.cell? ⟨b, o + i * 12 + 10, none⟩ = some (.int .i64 x.a3) ∧ W.cell? ⟨b, o + i * 12 + 11, none⟩ = some (.int .i64 x.a4) := by
  obtain ⟨hl, -, hin, hx⟩ := h
  obtain ⟨b, o, e, hb, hc⟩ := hx (by omega)
  have hi' : l[i]? = some l[i] := List.getElem?_eq_getElem (by omega)
  have c := hc i _ hi'
  exact ⟨b, o, _, e, hi', hb, hin _ (List.getElem_mem _), c 0 _ rfl, c 1 _ rfl, c 2 _ rfl, c 3 _ rfl, c 4 _ rfl, c 5 _ rfl, c 6 _ rfl, c 7 _ rfl, c 8 _ rfl, c 9 _ rfl, c 10 _ rfl, c 11 _ rfl⟩
theorem ArgC.below {W W' : World} {A : Option Addr} {k : Nat} {l : List Cl} (h : ArgC W A k l) (hb : Below W.heap.size W W') : ArgC W' A k l := by
  obtain ⟨hl, h2, hin, hx⟩ := h
  refine ⟨hl, h2, hin, fun h0 => ?_⟩
  obtain ⟨b, o, e, hbl, hc⟩ := hx h0
  exact ⟨b, o, e, Nat.lt_of_lt_of_le hbl hb.size, fun i x hi j u hu => bcell hb (hc i x hi j u hu)⟩
theorem ArgC.size {W : World} {A : Option Addr} {k : Nat} {l : List Cl} (h : ArgC W A k l) : k ≤ 9223372036854775807 := by have := h.2.1; unfold maxLen at this; omega
theorem open_callsL {H : Type} {enc : TypeId × Value → H} {W : World} {n : Nat} {v : Value} {y : DataW H × List MemPlace}
    (h : DataW.trod enc Tryd.prog W 0 (fun _ => true) true n 41 [v] = some y) : ∃ (A : Option Addr) (k c : Nat) (l : List Cl), v = .slice A k c ∧ ArgC W A k l := by
  rcases open_slice Tryd.underlying41 h with ⟨hv, -⟩ | ⟨a, len, cap, m, n', D, Pl, hv, -, hl, hm, hmm, -, hx⟩
  · simp only [List.cons.injEq, and_true] at hv
    exact ⟨none, 0, 0, [], hv, rfl, Nat.zero_le _, fun x hx => (by cases hx), fun q => absurd q (by omega)⟩
  · simp only [List.cons.injEq, and_true] at hv
    have hlm : len ≤ m := by rw [hmm]; split <;> omega
    have ce : Tryd.prog.cellsOf 65 = 12 := by kernel_rfl
    have each : ∀ i, i < m → ∃ q : Cl, q.ok ∧ ∀ (j : Nat) (u : Value), q.cells[j]? = some u → W.cell? (a.add (i * 12 + j)) = some u := by
      intro i hi
      obtain ⟨cs', h1, h2⟩ := hx i hi
      rw [ce] at h1
      obtain ⟨_, hlen, hcell⟩ := World.cells?_some h1
      match cs', hlen with
      | [v0, v1, v2, v3, v4, v5, v6, v7, v8, v9, v10, v11], _ =>
        obtain ⟨q, hq, e⟩ := trod_call h2
        refine ⟨q, hq, fun j u hu => ?_⟩
        rw [← e] at hu
        have hj : j < 12 := by have := (List.getElem?_eq_some_iff.1 hu).1; simpa using this
        have e0 := hcell j hj
        rw [add_add] at e0
        rw [e0]
        exact hu
    obtain ⟨q, hq⟩ := choose_lt each
    refine ⟨some a, len, cap, (List.range len).map q, hv, by simp, Nat.le_trans hl hm, ?_, fun h0 => ?_⟩
    · intro x hx
      obtain ⟨i, hi, rfl⟩ := List.mem_map.1 hx
      have hi := List.mem_range.1 hi
      exact (hq i (by omega)).1
    · have hs : a.spot = none := by
        have := (hq 0 (by omega)).2 0 _ rfl
        unfold World.cell? at this
        cases hsp : a.spot with
        | none => rfl
        | some z => simp [Addr.add, hsp] at this; split at this <;> cases this
      obtain ⟨b, o, sp⟩ := a
      simp only at hs
      subst hs
      have hblt : b < W.heap.size := by
        have := (hq 0 (by omega)).2 0 _ rfl
        rw [Addr.add_lit] at this
        exact World.block_lt_of_cell? W _ this
      refine ⟨b, o, rfl, hblt, fun i x hi j u hu => ?_⟩
      rw [List.getElem?_map] at hi
      have hil : i < len := by
        rcases Nat.lt_or_ge i len with q' | q'
        · exact q'
        · rw [List.getElem?_eq_none (by simpa using q')] at hi; cases hi
      rw [List.getElem?_range hil] at hi
      simp only [Option.map_some, Option.some.injEq] at hi
      subst hi
      have := (hq i (by omega)).2 j u hu
      rw [Addr.add_lit] at this
      rw [Nat.add_assoc]
      exact this
end Go.Proofs.YtmgjcjacoegocaaDoor.Ar
