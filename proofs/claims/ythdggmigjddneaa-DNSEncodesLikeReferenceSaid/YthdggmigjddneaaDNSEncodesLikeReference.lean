/-
  The law DNSEncodesLikeReference (stagepostlaw19.DNSEncodesLikeReference): ValidName, Valid, Same and Encode agree with the reference: it returns true at every input. No condition.
-/
import Derived.Test.YthdggmigjddneaaDnL31
import Derived.WalkKit
import Derived.ProofKit
import Derived.OpenShut
import Derived.ShutString
import Derived.ChangeOld
import Derived.Below
import Derived.Lib.SmallJoins
namespace Go.Proofs.Ythdggmigjddneaa.dNSEncodesLikeReference
open Go.ChangeShapes Go.WideShapes Go.ChangeAt Go.RowKit Go.Joins Go.Deep
open Go.ChangeMaps (open_string shut_string)
set_option linter.unusedVariables false

theorem own : ownKnob Try.prog.godebug = none := by kernel_rfl
theorem laidOut : laidOutB Try.prog = true := by kernel_rfl

theorem open_agg6 {H : Type} {enc : TypeId × Value → H} {P : Program} {w : World} {base : Nat} {spare : Nat → Bool} {held : Bool} {r : Reach} {b0 : Nat} {t : TypeId} {f0 f1 f2 f3 f4 f5 : Field} {v : Value} {d : DataW H} {p : List MemPlace} (hs : P.underlying t = some (.struct #[f0, f1, f2, f3, f4, f5])) (hone : oneCellFields P #[f0, f1, f2, f3, f4, f5] = true) (hC : P.cellsOf t = 6)
    (hv : Value.okWide P w r b0 t v) (h : DataW.Trod enc P w base spare held t v d p) :
    ∃ (v0 v1 v2 v3 v4 v5 : Value) (y0 y1 y2 y3 y4 y5 : DataW H × List MemPlace) (n : Nat), v = .agg #[v0, v1, v2, v3, v4, v5] ∧ d = .agg [y0.1, y1.1, y2.1, y3.1, y4.1, y5.1] ∧
      DataW.trod enc P w base spare held n f0.type [v0] = some y0 ∧ DataW.trod enc P w base spare held n f1.type [v1] = some y1 ∧ DataW.trod enc P w base spare held n f2.type [v2] = some y2 ∧ DataW.trod enc P w base spare held n f3.type [v3] = some y3 ∧ DataW.trod enc P w base spare held n f4.type [v4] = some y4 ∧ DataW.trod enc P w base spare held n f5.type [v5] = some y5 := by
  obtain ⟨cs, rfl, hsz⟩ := okWide_struct hs hv
  obtain ⟨l⟩ := cs
  match l, hsz.trans hC with
  | [c0, c1, c2, c3, c4, c5], _ =>
    obtain ⟨fuel, hf⟩ := h
    obtain ⟨xs, n, _, hx, _, hlen, hg⟩ := DataW.trod_struct hs hf
    obtain ⟨o0, k0⟩ := hone_of hone 0 f0 rfl
    obtain ⟨o1, k1⟩ := hone_of hone 1 f1 rfl
    obtain ⟨o2, k2⟩ := hone_of hone 2 f2 rfl
    obtain ⟨o3, k3⟩ := hone_of hone 3 f3 rfl
    obtain ⟨o4, k4⟩ := hone_of hone 4 f4 rfl
    obtain ⟨o5, k5⟩ := hone_of hone 5 f5 rfl
    match xs, hlen with
    | [y0, y1, y2, y3, y4, y5], _ =>
      simp only [Prod.mk.injEq] at hx
      exact ⟨c0, c1, c2, c3, c4, c5, y0, y1, y2, y3, y4, y5, n, rfl, by simpa using hx.1, by simpa [Value.cells, o0, k0] using hg 0 f0 rfl, by simpa [Value.cells, o1, k1] using hg 1 f1 rfl, by simpa [Value.cells, o2, k2] using hg 2 f2 rfl, by simpa [Value.cells, o3, k3] using hg 3 f3 rfl, by simpa [Value.cells, o4, k4] using hg 4 f4 rfl, by simpa [Value.cells, o5, k5] using hg 5 f5 rfl⟩

set_option maxRecDepth 100000 in
theorem lifted (os : Os) (started : os.Started) (H : Type) (enc : TypeId × Value → H) :
    ReturnsInHanded {} Try.checked os 3 .any (Rows.dNSEncodesLikeReferenceSpec.pre6 enc Try.prog Try.f3 Rows.dNSEncodesLikeReferenceRow.domain false) (Rows.dNSEncodesLikeReferenceSpec.post enc Try.prog Try.f3 false true false false) := by
  refine returnsInHanded_of_change (C := Try.checked) own started (by kernel_rfl) Try.func3
    (ChangeSpec.witness6 (enc := enc) (C := Try.checked) false ⟨#[], #[.agg #[.int .i64 0, .bool false, .int .i64 0, .int .i64 0, .bool false, .slice none 0 0], .agg #[.int .i64 0, .bool false, .int .i64 0, .int .i64 0, .bool false, .slice none 0 0], .agg #[.int .i64 0, .bool false, .int .i64 0, .string ⟨#[]⟩, .int .i64 0, .slice none 0 0], .string ⟨#[]⟩, .int .i64 0], []⟩ 8 (by kernel_rfl) (by kernel_rfl) (by kernel_rfl) (by kernel_rfl)) ?_
  intro W base args ds gs before hval0 hW hcnd _
  have hval : ∀ (j : Nat) t v, Try.f3.params[j]? = some t → args[j]? = some v → Value.okWide Try.prog W .any base t v := hval0
  have hW' := hW
  obtain ⟨p, q, hA0, hV, rfl, hfz, hnd⟩ := hW
  have hA : DataW.TrodAll enc Try.prog W 0 (fun _ => true) true Try.f3.params.toList args.toList ds p := hA0
  rw [Try.params3] at hA hval
  obtain ⟨v0, vs0, d0, ds0, p0, q0, hargs, rfl, rfl, h0, r0⟩ := trodAll_cons hA
  obtain ⟨v1, vs1, d1, ds1, p1, q1, rfl, rfl, rfl, h1, r1⟩ := trodAll_cons r0
  obtain ⟨v2, vs2, d2, ds2, p2, q2, rfl, rfl, rfl, h2, r2⟩ := trodAll_cons r1
  obtain ⟨v3, vs3, d3, ds3, p3, q3, rfl, rfl, rfl, h3, r3⟩ := trodAll_cons r2
  obtain ⟨v4, vs4, d4, ds4, p4, q4, rfl, rfl, rfl, h4, r4⟩ := trodAll_cons r3
  obtain ⟨rfl, rfl, rfl⟩ := trodAll_nil r4
  obtain rfl : args = #[v0, v1, v2, v3, v4] := by cases args; simp_all
  obtain ⟨rfl, rfl⟩ := trodVars_none hV
  have k0 := h0
  have lt0 : ∀ x ∈ p0, x.block < W.heap.size := by obtain ⟨m, hm⟩ := k0; exact DataW.trod_lt m _ _ _ hm
  obtain ⟨c0_0, c0_1, c0_2, c0_3, c0_4, c0_5, y0_0, y0_1, y0_2, y0_3, y0_4, y0_5, n0, rfl, hd0, g0_0, g0_1, g0_2, g0_3, g0_4, g0_5⟩ := open_agg6 Try.underlying24 (by kernel_rfl) (by kernel_rfl) (hval 0 24 v0 rfl rfl) h0
  obtain ⟨a0_0, e0_0, _, w0_0⟩ := DataW.trod_int Try.underlying3 g0_0
  simp only [List.cons.injEq, and_true] at e0_0; subst e0_0
  obtain ⟨a0_1, e0_1, _⟩ := DataW.trod_bool Try.underlying4 g0_1
  simp only [List.cons.injEq, and_true] at e0_1; subst e0_1
  obtain ⟨a0_2, e0_2, _, w0_2⟩ := DataW.trod_int Try.underlying3 g0_2
  simp only [List.cons.injEq, and_true] at e0_2; subst e0_2
  obtain ⟨a0_3, e0_3, _, w0_3⟩ := DataW.trod_int Try.underlying3 g0_3
  simp only [List.cons.injEq, and_true] at e0_3; subst e0_3
  obtain ⟨a0_4, e0_4, _⟩ := DataW.trod_bool Try.underlying4 g0_4
  simp only [List.cons.injEq, and_true] at e0_4; subst e0_4
  obtain ⟨A0_5, n0_5, m0_5, l0_5, rfl, H0_5⟩ := Dn.open_rrs g0_5
  have k1 := h1
  have lt1 : ∀ x ∈ p1, x.block < W.heap.size := by obtain ⟨m, hm⟩ := k1; exact DataW.trod_lt m _ _ _ hm
  obtain ⟨c1_0, c1_1, c1_2, c1_3, c1_4, c1_5, y1_0, y1_1, y1_2, y1_3, y1_4, y1_5, n1, rfl, hd1, g1_0, g1_1, g1_2, g1_3, g1_4, g1_5⟩ := open_agg6 Try.underlying24 (by kernel_rfl) (by kernel_rfl) (hval 1 24 v1 rfl rfl) h1
  obtain ⟨a1_0, e1_0, _, w1_0⟩ := DataW.trod_int Try.underlying3 g1_0
  simp only [List.cons.injEq, and_true] at e1_0; subst e1_0
  obtain ⟨a1_1, e1_1, _⟩ := DataW.trod_bool Try.underlying4 g1_1
  simp only [List.cons.injEq, and_true] at e1_1; subst e1_1
  obtain ⟨a1_2, e1_2, _, w1_2⟩ := DataW.trod_int Try.underlying3 g1_2
  simp only [List.cons.injEq, and_true] at e1_2; subst e1_2
  obtain ⟨a1_3, e1_3, _, w1_3⟩ := DataW.trod_int Try.underlying3 g1_3
  simp only [List.cons.injEq, and_true] at e1_3; subst e1_3
  obtain ⟨a1_4, e1_4, _⟩ := DataW.trod_bool Try.underlying4 g1_4
  simp only [List.cons.injEq, and_true] at e1_4; subst e1_4
  obtain ⟨A1_5, n1_5, m1_5, l1_5, rfl, H1_5⟩ := Dn.open_rrs g1_5
  have k2 := h2
  have lt2 : ∀ x ∈ p2, x.block < W.heap.size := by obtain ⟨m, hm⟩ := k2; exact DataW.trod_lt m _ _ _ hm
  obtain ⟨c2_0, c2_1, c2_2, c2_3, c2_4, c2_5, y2_0, y2_1, y2_2, y2_3, y2_4, y2_5, n2, rfl, hd2, g2_0, g2_1, g2_2, g2_3, g2_4, g2_5⟩ := open_agg6 Try.underlying27 (by kernel_rfl) (by kernel_rfl) (hval 2 27 v2 rfl rfl) h2
  obtain ⟨a2_0, e2_0, _, w2_0⟩ := DataW.trod_int Try.underlying3 g2_0
  simp only [List.cons.injEq, and_true] at e2_0; subst e2_0
  obtain ⟨a2_1, e2_1, _⟩ := DataW.trod_bool Try.underlying4 g2_1
  simp only [List.cons.injEq, and_true] at e2_1; subst e2_1
  obtain ⟨a2_2, e2_2, _, w2_2⟩ := DataW.trod_int Try.underlying3 g2_2
  simp only [List.cons.injEq, and_true] at e2_2; subst e2_2
  obtain ⟨a2_3, e2_3, _, w2_3⟩ := DataW.trod_string Try.underlying9 g2_3
  simp only [List.cons.injEq, and_true] at e2_3; subst e2_3
  obtain ⟨a2_4, e2_4, _, w2_4⟩ := DataW.trod_int Try.underlying3 g2_4
  simp only [List.cons.injEq, and_true] at e2_4; subst e2_4
  obtain ⟨A2_5, n2_5, m2_5, l2_5, rfl, H2_5⟩ := Dn.open_recsC g2_5
  have k3 := h3
  have lt3 : ∀ x ∈ p3, x.block < W.heap.size := by obtain ⟨m, hm⟩ := k3; exact DataW.trod_lt m _ _ _ hm
  obtain ⟨a3, rfl, hd3, hp3, w3⟩ := open_string Try.underlying9 (hval 3 9 v3 rfl rfl) h3
  have k4 := h4
  have lt4 : ∀ x ∈ p4, x.block < W.heap.size := by obtain ⟨m, hm⟩ := k4; exact DataW.trod_lt m _ _ _ hm
  obtain ⟨a4, rfl, hd4, hp4, w4⟩ := open_int Try.underlying3 (hval 4 3 v4 rfl rfl) h4
  clear hA0 hval0
  refine (Dn.law31_any ⟨a0_0, a0_1, a0_2, a0_3, a0_4, l0_5⟩ ⟨a1_0, a1_1, a1_2, a1_3, a1_4, l1_5⟩ a2_0 a2_2 a2_4 a2_1 a2_3 a3 a4 A0_5 A1_5 A2_5 n0_5 m0_5 n1_5 m1_5 n2_5 m2_5 l2_5 W ⟨bounds_i64 w0_0, bounds_i64 w0_2, bounds_i64 w0_3⟩ H0_5 ⟨bounds_i64 w1_0, bounds_i64 w1_2, bounds_i64 w1_3⟩ H1_5 H2_5 (bounds_i64 w4)).mono fun e W' ⟨he, bel⟩ => ?_
  subst he
  exact ⟨_, rfl, _, _, _, [], _, [], hW', trodAll_mk1 (shut_bool Try.underlying4 _), (trodAll_cons_mk (Below.trod laidOut (by kernel_rfl) (of_decide_eq_true (by kernel_rfl)) k0 bel lt0) (trodAll_cons_mk (Below.trod laidOut (by kernel_rfl) (of_decide_eq_true (by kernel_rfl)) k1 bel lt1) (trodAll_cons_mk (Below.trod laidOut (by kernel_rfl) (of_decide_eq_true (by kernel_rfl)) k2 bel lt2) (trodAll_cons_mk (Below.trod laidOut (by kernel_rfl) (of_decide_eq_true (by kernel_rfl)) k3 bel lt3) (trodAll_cons_mk (Below.trod laidOut (by kernel_rfl) (of_decide_eq_true (by kernel_rfl)) k4 bel lt4) trodAll_mk0))))), rfl, bel.frame _, fun h => by cases h⟩

theorem over : Rows.dNSEncodesLikeReferenceRow.holds Try.pinned (OpenSpec.ofChange Rows.dNSEncodesLikeReferenceSpec) :=
  OpenClaim.holds_of_wide 3 Try.f3 rfl rfl rfl rfl rfl rfl rfl ⟨rfl, rfl, rfl, rfl, rfl⟩ rfl rfl rfl rfl rfl (by kernel_rfl) Try.func3 (by kernel_rfl)
    (of_decide_eq_true (by kernel_rfl)) (by unfold Func.isWrapper; first | (rw [if_pos (by decide +kernel)]; kernel_rfl) | (rw [if_neg (by decide +kernel)]; exact ⟨rfl, rfl⟩))
    (fun os started H enc _ => lifted os started H enc)

theorem proved : Rows.DNSEncodesLikeReferenceSaid :=
  over
#print axioms proved
end Go.Proofs.Ythdggmigjddneaa.dNSEncodesLikeReference
