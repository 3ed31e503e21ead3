/-
  The examples of chapter 07.
-/
import Derived.Test.YtmeldgnjgogacaaReLaw0
import Derived.Test.YtmeldgnjgogacaaRePut2
import Derived.Deep.RegionHeld3
namespace Go.Proofs.Ytmeldgnjgogacaa.Re
set_option maxRecDepth 100000
open Go.RowKit Go.Proofs.Ytmeldgnjgogacaa.Wire
open Go.Proofs.Ytmeldgnjgogacaa.Ip (Pk vlenB)

/-- three tables apart from each other, made since W0 -/
structure E3 (W0 W : World) (T1 T2 T3 : Nat) (A1 A2 A3 : List (Ky × Hf)) : Prop where
  ex : ∃ S1 S2 S3 : Nat → Prop, TT W T1 A1 S1 ∧ TT W T2 A2 S2 ∧ TT W T3 A3 S3 ∧ (∀ q, S1 q → W0.heap.size ≤ q ∧ ¬ S2 q ∧ ¬ S3 q) ∧ (∀ q, S2 q → W0.heap.size ≤ q ∧ ¬ S3 q) ∧ ∀ q, S3 q → W0.heap.size ≤ q
  bel : Below W0.heap.size W0 W
theorem E3.rot {W0 W : World} {T1 T2 T3 : Nat} {A1 A2 A3 : List (Ky × Hf)} (h : E3 W0 W T1 T2 T3 A1 A2 A3) : E3 W0 W T2 T3 T1 A2 A3 A1 := by
  obtain ⟨S1, S2, S3, t1, t2, t3, d1, d2, d3⟩ := h.ex
  exact ⟨⟨S2, S3, S1, t2, t3, t1, fun q hq => ⟨(d2 q hq).1, (d2 q hq).2, fun r => (d1 q r).2.1 hq⟩, fun q hq => ⟨d3 q hq, fun r => (d1 q r).2.2 hq⟩, fun q hq => (d1 q hq).1⟩, h.bel⟩
theorem E3.below {W0 W W' : World} {T1 T2 T3 : Nat} {A1 A2 A3 : List (Ky × Hf)} (h : E3 W0 W T1 T2 T3 A1 A2 A3) (hb : Below W.heap.size W W') : E3 W0 W' T1 T2 T3 A1 A2 A3 := by
  obtain ⟨S1, S2, S3, t1, t2, t3, d⟩ := h.ex
  exact ⟨⟨S1, S2, S3, t1.below hb, t2.below hb, t3.below hb, d⟩, below_call h.bel hb⟩
theorem E3.chg {W0 W W' : World} {T1 T2 T3 : Nat} {A1 A1' A2 A3 : List (Ky × Hf)} (h : E3 W0 W T1 T2 T3 A1 A2 A3)
    (hc : ∀ S1, TT W T1 A1 S1 → ∃ S', TT W' T1 A1' S' ∧ Chg S1 W W' ∧ ∀ q, S' q → S1 q ∨ W.heap.size ≤ q) : E3 W0 W' T1 T2 T3 A1' A2 A3 := by
  obtain ⟨S1, S2, S3, t1, t2, t3, d1, d2, d3⟩ := h.ex
  obtain ⟨S', t1', c, n⟩ := hc S1 t1
  have hz := h.bel.size
  refine ⟨⟨S', S2, S3, t1', t2.chg c (fun q hq r => (d1 q r).2.1 hq), t3.chg c (fun q hq r => (d1 q r).2.2 hq), fun q hq => ?_, d2, d3⟩, ?_⟩
  · rcases n q hq with r | r
    · exact d1 q r
    · exact ⟨Nat.le_trans hz r, fun s => by have := t2.lt q s; omega, fun s => by have := t3.lt q s; omega⟩
  · exact ⟨c.os.trans h.bel.os, c.tape.trans h.bel.tape, c.output.trans h.bel.output, Nat.le_trans hz c.size, fun k hk => (c.block k (Nat.lt_of_lt_of_le hk hz) (fun r => by have := (d1 k r).1; omega)).trans (h.bel.block k hk)⟩
theorem put_e3 {W0 W : World} {T1 T2 T3 : Nat} {A1 A2 A3 : List (Ky × Hf)} (now : Int) (p : Pk) (h : E3 W0 W T1 T2 T3 A1 A2 A3) (hs : p.s.size ≤ 9223372036854775807) (hL : A1.length < 8) (hnow : In64 now) :
    Calls Try.prog 24 #[.pointer (some ⟨T1, 0, none⟩), .int .i64 now, .agg #[.int .i64 p.f, .int .i64 p.t, .int .i64 p.pr, .int .i64 p.ttl, .int .i64 p.id, .bool p.df, .bool p.mf, .int .i64 p.off, .string p.s]] W fun x w' => x = .returned (.string (putS (putA A1 now p))) ∧ E3 W0 w' T1 T2 T3 (putA A1 now p).1 A2 A3 := by
  obtain ⟨S1, S2, S3, t1, t2, t3, d1, d2, d3⟩ := h.ex
  refine (put_law T1 A1 S1 now p W t1 hs (.inl hL) (by omega) hnow).mono ?_
  rintro x w' ⟨rfl, S', t1', c, n⟩
  have hz := h.bel.size
  refine ⟨rfl, ⟨S', S2, S3, t1', t2.chg c (fun q hq r => (d1 q r).2.1 hq), t3.chg c (fun q hq r => (d1 q r).2.2 hq), fun q hq => ?_, d2, d3⟩, ?_⟩
  · rcases n q hq with r | r
    · exact d1 q r
    · exact ⟨Nat.le_trans hz r, fun s => by have := t2.lt q s; omega, fun s => by have := t3.lt q s; omega⟩
  · exact ⟨c.os.trans h.bel.os, c.tape.trans h.bel.tape, c.output.trans h.bel.output, Nat.le_trans hz c.size, fun k hk => (c.block k (Nat.lt_of_lt_of_le hk hz) (fun r => by have := (d1 k r).1; omega)).trans (h.bel.block k hk)⟩
theorem putm_e3 {W0 W : World} {T1 T2 T3 : Nat} {A1 A2 A3 : List (Ky × Hf)} (now : Int) (p : Pk) (h : E3 W0 W T1 T2 T3 A1 A2 A3) (hs : p.s.size ≤ 9223372036854775807) (hL : A1.length < 8) (hnow : In64 now) :
    Calls Try.prog 16 #[.pointer (some ⟨T1, 0, none⟩), .int .i64 now, .agg #[.int .i64 p.f, .int .i64 p.t, .int .i64 p.pr, .int .i64 p.ttl, .int .i64 p.id, .bool p.df, .bool p.mf, .int .i64 p.off, .string p.s]] W fun x w' => x = PutRes (putA A1 now p).2.1 (putA A1 now p).2.2.1 (putA A1 now p).2.2.2 ∧ E3 W0 w' T1 T2 T3 (putA A1 now p).1 A2 A3 := by
  obtain ⟨S1, S2, S3, t1, t2, t3, d1, d2, d3⟩ := h.ex
  refine (put_any T1 A1 S1 now p W t1 hs (.inl hL) (by omega) hnow).mono ?_
  rintro x w' ⟨rfl, S', t1', c, n⟩
  have hz := h.bel.size
  refine ⟨rfl, ⟨S', S2, S3, t1', t2.chg c (fun q hq r => (d1 q r).2.1 hq), t3.chg c (fun q hq r => (d1 q r).2.2 hq), fun q hq => ?_, d2, d3⟩, ?_⟩
  · rcases n q hq with r | r
    · exact d1 q r
    · exact ⟨Nat.le_trans hz r, fun s => by have := t2.lt q s; omega, fun s => by have := t3.lt q s; omega⟩
  · exact ⟨c.os.trans h.bel.os, c.tape.trans h.bel.tape, c.output.trans h.bel.output, Nat.le_trans hz c.size, fun k hk => (c.block k (Nat.lt_of_lt_of_le hk hz) (fun r => by have := (d1 k r).1; omega)).trans (h.bel.block k hk)⟩
theorem sizes_e3 {W0 W : World} {T1 T2 T3 : Nat} {A1 A2 A3 : List (Ky × Hf)} (h : E3 W0 W T1 T2 T3 A1 A2 A3) (hL : A1.length ≤ 1000) :
    Calls Try.prog 23 #[.pointer (some ⟨T1, 0, none⟩)] W fun x w' => x = .returned (.tuple #[.int .i64 (A1.length : Int), .int .i64 (sumA A1)]) ∧ E3 W0 w' T1 T2 T3 A1 A2 A3 := by
  obtain ⟨S1, S2, S3, t1, t2, t3, d⟩ := h.ex
  exact (sizes_tt T1 A1 S1 W t1 hL).mono fun x w' hx => ⟨hx.1, h.below hx.2⟩
theorem tick_e3 {W0 W : World} {T1 T2 T3 : Nat} {A1 A2 A3 : List (Ky × Hf)} (now : Int) (h : E3 W0 W T1 T2 T3 A1 A2 A3) (hL : A1.length ≤ 1000) (hnow : In64 now) :
    Calls Try.prog 19 #[.pointer (some ⟨T1, 0, none⟩), .int .i64 now] W fun x w' => ∃ B c, x = .returned (.slice B (toldA now A1).length c) ∧ PRow w' W.heap.size B c (toldA now A1) ∧ E3 W0 w' T1 T2 T3 (keepA now A1) A2 A3 ∧ W.heap.size ≤ w'.heap.size := by
  obtain ⟨S1, S2, S3, t1, t2, t3, d1, d2, d3⟩ := h.ex
  refine (tick_tt T1 A1 S1 now W t1 hL hnow).mono ?_
  rintro x w' ⟨B, c, rfl, hr, ht, hc⟩
  have hz := h.bel.size
  refine ⟨B, c, rfl, hr, ⟨⟨S1, S2, S3, ht, t2.chg hc (fun q hq r => (d1 q r).2.1 hq), t3.chg hc (fun q hq r => (d1 q r).2.2 hq), d1, d2, d3⟩, ?_⟩, hc.size⟩
  exact ⟨hc.os.trans h.bel.os, hc.tape.trans h.bel.tape, hc.output.trans h.bel.output, Nat.le_trans hz hc.size, fun k hk => (hc.block k (Nat.lt_of_lt_of_le hk hz) (fun r => by have := (d1 k r).1; omega)).trans (h.bel.block k hk)⟩
def pOne : Pk := { f := 1, t := 2, pr := 17, ttl := 5, id := 3, df := false, mf := true, off := 0, s := ⟨#[97, 98, 99, 100, 101, 102, 103, 104]⟩ }
def pTwo : Pk := { f := 1, t := 2, pr := 17, ttl := 4, id := 3, df := false, mf := false, off := 8, s := ⟨#[105, 106]⟩ }
def pOdd : Pk := { f := 1, t := 2, pr := 17, ttl := 5, id := 3, df := false, mf := true, off := 0, s := ⟨#[97, 98, 99, 100, 101, 102, 103, 88]⟩ }
def pX : Pk := { f := 1, t := 2, pr := 0, ttl := 1, id := 0, df := false, mf := false, off := 0, s := ⟨#[120]⟩ }
def xa1 : List (Ky × Hf) := (putA [] 0 pOne).1
def xa2 : List (Ky × Hf) := (putA xa1 0 pTwo).1
def xb1 : List (Ky × Hf) := (putA [] 0 pTwo).1
def xb2 : List (Ky × Hf) := (putA xb1 0 pOne).1
def xb3 : List (Ky × Hf) := (putA xb2 0 pOne).1
def xc1 : List (Ky × Hf) := (putA [] 0 pOne).1
def xc2 : List (Ky × Hf) := (putA xc1 0 pOdd).1
def xc3 : List (Ky × Hf) := (putA xc2 0 pTwo).1
theorem xvals : putS (putA [] 0 pOne) ++ putS (putA xa1 0 pTwo) = ⟨#[45, 97, 98, 99, 100, 101, 102, 103, 104, 105, 106]⟩ ∧ putS (putA [] 0 pTwo) ++ putS (putA xb1 0 pOne) ++ putS (putA xb2 0 pOne) = ⟨#[45, 97, 98, 99, 100, 101, 102, 103, 104, 105, 106, 45]⟩ ∧
    putS (putA [] 0 pOne) ++ putS (putA xc1 0 pOdd) ++ putS (putA xc2 0 pTwo) = ⟨#[45, 33, 33]⟩ := ⟨by decide +kernel, by decide +kernel, by decide +kernel⟩
theorem xnum : xa1.length = 1 ∧ xa2.length = 0 ∧ xb1.length = 1 ∧ xb2.length = 0 ∧ xb3.length = 1 ∧ sumA xb3 = 8 ∧ xc1.length = 1 ∧ xc2.length = 1 ∧ xc3.length = 1 ∧ sumA xc3 = 0 ∧ toldA 29 xb3 = [] ∧ keepA 29 xb3 = xb3 ∧ toldA 30 xb3 = [pOne] ∧ toldA 30 xc3 = [] := by
  refine ⟨by decide +kernel, by decide +kernel, by decide +kernel, by decide +kernel, by decide +kernel, by decide +kernel, by decide +kernel, by decide +kernel, by decide +kernel, by decide +kernel, by decide +kernel, by kernel_rfl, by decide +kernel, by decide +kernel⟩
theorem xbad : putA xa2 0 pk0 = (xa2, pk0, false, 60) ∧ putS (putA xa2 0 pX) = ⟨#[120]⟩ := ⟨by kernel_rfl, by decide +kernel⟩
theorem xC1 {W0 W : World} {T1 T2 T3 : Nat} (h : E3 W0 W T1 T2 T3 [] [] []) : Calls Try.prog 24 #[.pointer (some ⟨T1, 0, none⟩), .int .i64 0, .agg #[.int .i64 1, .int .i64 2, .int .i64 17, .int .i64 5, .int .i64 3, .bool false, .bool true, .int .i64 0, .string ⟨#[97, 98, 99, 100, 101, 102, 103, 104]⟩]] W fun x w' => x = .returned (.string ⟨#[45]⟩) ∧ E3 W0 w' T1 T2 T3 xa1 [] [] := by
  refine (put_e3 0 pOne h (by decide) (by decide +kernel) (by unfold In64; omega)).mono ?_
  rintro x w' ⟨rfl, he⟩
  exact ⟨congrArg (fun s => Ending.returned (.string s)) (by decide +kernel), he⟩
theorem xC2 {W0 W : World} {T1 T2 T3 : Nat} (h : E3 W0 W T1 T2 T3 xa1 [] []) : Calls Try.prog 24 #[.pointer (some ⟨T1, 0, none⟩), .int .i64 0, .agg #[.int .i64 1, .int .i64 2, .int .i64 17, .int .i64 4, .int .i64 3, .bool false, .bool false, .int .i64 8, .string ⟨#[105, 106]⟩]] W fun x w' => x = .returned (.string ⟨#[97, 98, 99, 100, 101, 102, 103, 104, 105, 106]⟩) ∧ E3 W0 w' T1 T2 T3 xa2 [] [] := by
  refine (put_e3 0 pTwo h (by decide) (by decide +kernel) (by unfold In64; omega)).mono ?_
  rintro x w' ⟨rfl, he⟩
  exact ⟨congrArg (fun s => Ending.returned (.string s)) (by decide +kernel), he⟩
theorem xD1 {W0 W : World} {T1 T2 T3 : Nat} (h : E3 W0 W T1 T2 T3 xa2 [] []) : Calls Try.prog 24 #[.pointer (some ⟨T2, 0, none⟩), .int .i64 0, .agg #[.int .i64 1, .int .i64 2, .int .i64 17, .int .i64 4, .int .i64 3, .bool false, .bool false, .int .i64 8, .string ⟨#[105, 106]⟩]] W fun x w' => x = .returned (.string ⟨#[45]⟩) ∧ E3 W0 w' T1 T2 T3 xa2 xb1 [] := by
  refine (put_e3 0 pTwo h.rot (by decide) (by decide +kernel) (by unfold In64; omega)).mono ?_
  rintro x w' ⟨rfl, he⟩
  exact ⟨congrArg (fun s => Ending.returned (.string s)) (by decide +kernel), he.rot.rot⟩
theorem xD2 {W0 W : World} {T1 T2 T3 : Nat} (h : E3 W0 W T1 T2 T3 xa2 xb1 []) : Calls Try.prog 24 #[.pointer (some ⟨T2, 0, none⟩), .int .i64 0, .agg #[.int .i64 1, .int .i64 2, .int .i64 17, .int .i64 5, .int .i64 3, .bool false, .bool true, .int .i64 0, .string ⟨#[97, 98, 99, 100, 101, 102, 103, 104]⟩]] W fun x w' => x = .returned (.string ⟨#[97, 98, 99, 100, 101, 102, 103, 104, 105, 106]⟩) ∧ E3 W0 w' T1 T2 T3 xa2 xb2 [] := by
  refine (put_e3 0 pOne h.rot (by decide) (by decide +kernel) (by unfold In64; omega)).mono ?_
  rintro x w' ⟨rfl, he⟩
  exact ⟨congrArg (fun s => Ending.returned (.string s)) (by decide +kernel), he.rot.rot⟩
theorem xD3 {W0 W : World} {T1 T2 T3 : Nat} (h : E3 W0 W T1 T2 T3 xa2 xb2 []) : Calls Try.prog 24 #[.pointer (some ⟨T2, 0, none⟩), .int .i64 0, .agg #[.int .i64 1, .int .i64 2, .int .i64 17, .int .i64 5, .int .i64 3, .bool false, .bool true, .int .i64 0, .string ⟨#[97, 98, 99, 100, 101, 102, 103, 104]⟩]] W fun x w' => x = .returned (.string ⟨#[45]⟩) ∧ E3 W0 w' T1 T2 T3 xa2 xb3 [] := by
  refine (put_e3 0 pOne h.rot (by decide) (by decide +kernel) (by unfold In64; omega)).mono ?_
  rintro x w' ⟨rfl, he⟩
  exact ⟨congrArg (fun s => Ending.returned (.string s)) (by decide +kernel), he.rot.rot⟩
theorem xF1 {W0 W : World} {T1 T2 T3 : Nat} (h : E3 W0 W T1 T2 T3 xa2 xb3 []) : Calls Try.prog 24 #[.pointer (some ⟨T3, 0, none⟩), .int .i64 0, .agg #[.int .i64 1, .int .i64 2, .int .i64 17, .int .i64 5, .int .i64 3, .bool false, .bool true, .int .i64 0, .string ⟨#[97, 98, 99, 100, 101, 102, 103, 104]⟩]] W fun x w' => x = .returned (.string ⟨#[45]⟩) ∧ E3 W0 w' T1 T2 T3 xa2 xb3 xc1 := by
  refine (put_e3 0 pOne h.rot.rot (by decide) (by decide +kernel) (by unfold In64; omega)).mono ?_
  rintro x w' ⟨rfl, he⟩
  exact ⟨congrArg (fun s => Ending.returned (.string s)) (by decide +kernel), he.rot⟩
theorem xF2 {W0 W : World} {T1 T2 T3 : Nat} (h : E3 W0 W T1 T2 T3 xa2 xb3 xc1) : Calls Try.prog 24 #[.pointer (some ⟨T3, 0, none⟩), .int .i64 0, .agg #[.int .i64 1, .int .i64 2, .int .i64 17, .int .i64 5, .int .i64 3, .bool false, .bool true, .int .i64 0, .string ⟨#[97, 98, 99, 100, 101, 102, 103, 88]⟩]] W fun x w' => x = .returned (.string ⟨#[33]⟩) ∧ E3 W0 w' T1 T2 T3 xa2 xb3 xc2 := by
  refine (put_e3 0 pOdd h.rot.rot (by decide) (by decide +kernel) (by unfold In64; omega)).mono ?_
  rintro x w' ⟨rfl, he⟩
  exact ⟨congrArg (fun s => Ending.returned (.string s)) (by decide +kernel), he.rot⟩
theorem xF3 {W0 W : World} {T1 T2 T3 : Nat} (h : E3 W0 W T1 T2 T3 xa2 xb3 xc2) : Calls Try.prog 24 #[.pointer (some ⟨T3, 0, none⟩), .int .i64 0, .agg #[.int .i64 1, .int .i64 2, .int .i64 17, .int .i64 4, .int .i64 3, .bool false, .bool false, .int .i64 8, .string ⟨#[105, 106]⟩]] W fun x w' => x = .returned (.string ⟨#[33]⟩) ∧ E3 W0 w' T1 T2 T3 xa2 xb3 xc3 := by
  refine (put_e3 0 pTwo h.rot.rot (by decide) (by decide +kernel) (by unfold In64; omega)).mono ?_
  rintro x w' ⟨rfl, he⟩
  exact ⟨congrArg (fun s => Ending.returned (.string s)) (by decide +kernel), he.rot⟩
theorem xS2 {W0 W : World} {T1 T2 T3 : Nat} (h : E3 W0 W T1 T2 T3 xa2 xb3 xc3) : Calls Try.prog 23 #[.pointer (some ⟨T2, 0, none⟩)] W fun x w' => x = .returned (.tuple #[.int .i64 1, .int .i64 8]) ∧ E3 W0 w' T1 T2 T3 xa2 xb3 xc3 := by
  refine (sizes_e3 h.rot (by decide +kernel)).mono ?_
  rintro x w' ⟨rfl, he⟩
  rw [xnum.2.2.2.2.1, xnum.2.2.2.2.2.1]
  exact ⟨rfl, he.rot.rot⟩
theorem xS3 {W0 W : World} {T1 T2 T3 : Nat} (h : E3 W0 W T1 T2 T3 xa2 xb3 xc3) : Calls Try.prog 23 #[.pointer (some ⟨T3, 0, none⟩)] W fun x w' => x = .returned (.tuple #[.int .i64 1, .int .i64 0]) ∧ E3 W0 w' T1 T2 T3 xa2 xb3 xc3 := by
  refine (sizes_e3 h.rot.rot (by decide +kernel)).mono ?_
  rintro x w' ⟨rfl, he⟩
  rw [xnum.2.2.2.2.2.2.2.2.1, xnum.2.2.2.2.2.2.2.2.2.1]
  exact ⟨rfl, he.rot⟩
theorem tick_told {T : Nat} {A : List (Ky × Hf)} {S : Nat → Prop} {now : Int} {w : World} (l : List Pk) (n : Nat) (hl : toldA now A = l) (hn : l.length = n) (h : TT w T A S) (hL : A.length ≤ 1000) (hnow : In64 now) :
    Calls Try.prog 19 #[.pointer (some ⟨T, 0, none⟩), .int .i64 now] w fun x w' => ∃ B c, x = .returned (.slice B n c) ∧ PRow w' w.heap.size B c l ∧ TT w' T (keepA now A) S ∧ Chg S w w' := by
  subst hn; subst hl
  exact tick_tt T A S now w h hL hnow
theorem xT2 {W0 W : World} {T1 T2 T3 : Nat} (h : E3 W0 W T1 T2 T3 xa2 xb3 xc3) : Calls Try.prog 19 #[.pointer (some ⟨T2, 0, none⟩), .int .i64 29] W fun x w' => ∃ B c, x = .returned (.slice B 0 c) ∧ E3 W0 w' T1 T2 T3 xa2 xb3 xc3 := by
  refine (tick_e3 29 h.rot (by decide +kernel) (by unfold In64; omega)).mono ?_
  rintro x w' ⟨B, c, rfl, -, he, -⟩
  rw [xnum.2.2.2.2.2.2.2.2.2.2.1, xnum.2.2.2.2.2.2.2.2.2.2.2.1] at *
  exact ⟨B, c, rfl, he.rot.rot⟩
theorem putb {T : Nat} {w : World} : Calls Try.prog 16 #[.pointer (some ⟨T, 0, none⟩), .int .i64 0, .agg #[.int .i64 0, .int .i64 0, .int .i64 0, .int .i64 0, .int .i64 0, .bool false, .bool false, .int .i64 0, .string ⟨#[]⟩]] w fun x w' => x = PutRes pk0 false 60 ∧ Below w.heap.size w w' :=
  put_bad T 0 pk0 w (by decide +kernel) (by decide)
theorem putn {w : World} : Calls Try.prog 16 #[.pointer none, .int .i64 0, .agg #[.int .i64 1, .int .i64 2, .int .i64 17, .int .i64 5, .int .i64 3, .bool false, .bool true, .int .i64 0, .string ⟨#[97, 98, 99, 100, 101, 102, 103, 104]⟩]] w fun x w' => x = PutRes pk0 false 1 ∧ Below w.heap.size w w' :=
  put_nil 0 pOne w
theorem prow_block {W : World} {g : Nat} (l : List Pk) (h : W.heap[g]? = some (.cells (pkC l).toArray 30 (0, 0))) (hl : l.length ≤ maxLen) : PRow W 0 (some ⟨g, 0, none⟩) l.length l :=
  ⟨pkC_length l, .inr ⟨g, l.length, _, rfl, Nat.zero_le _, h, Nat.le_refl _, hl, by simp [pkC_length], by rw [← pkC_length l]; simp⟩⟩
theorem xSame {W : World} {B : Option Addr} {c lo g : Nat} (h1 : PRow W lo B c [pOne]) (h2 : W.heap[g]? = some (.cells #[.int .i64 1, .int .i64 2, .int .i64 17, .int .i64 5, .int .i64 3, .bool false, .bool true, .int .i64 0, .string ⟨#[97, 98, 99, 100, 101, 102, 103, 104]⟩] 30 (0, 0))) :
    Calls Try.prog 18 #[.slice B 1 c, .slice (some ⟨g, 0, none⟩) 1 1] W fun x w' => x = .returned (.bool true) ∧ Below W.heap.size W w' := by
  have := same_any [pOne] [pOne] lo 0 B (some ⟨g, 0, none⟩) c 1 W h1 (prow_block [pOne] h2 (by decide)) ⟨by decide, by decide⟩
  rw [decide_eq_true rfl] at this
  exact this
theorem xG {W : World} {T : Nat} {S : Nat → Prop} (h : TT W T xa2 S) : Calls Try.prog 24 #[.pointer (some ⟨T, 0, none⟩), .int .i64 0, .agg #[.int .i64 1, .int .i64 2, .int .i64 0, .int .i64 1, .int .i64 0, .bool false, .bool false, .int .i64 0, .string ⟨#[120]⟩]] W fun x w' => x = .returned (.string ⟨#[120]⟩) ∧ Chg S W w' := by
  refine (put_law T xa2 S 0 pX W h (by decide) (by decide +kernel) (by decide +kernel) (by unfold In64; omega)).mono ?_
  rintro x w' ⟨rfl, S', -, hc, -⟩
  exact ⟨congrArg (fun s => Ending.returned (.string s)) xbad.2, hc⟩
set_option maxHeartbeats 8000000 in
theorem examples_any (w : World) : Calls Try.prog 12 #[] w fun x w' => x = .returned (.bool true) ∧ Below w.heap.size w w' := by
  have Ha := Lib.hid (block_alloc (block_alloc (alloc_new w (.cells #[.int .i64 1, .int .i64 2, .int .i64 17, .int .i64 5, .int .i64 3, .bool false, .bool true, .int .i64 0, .string ⟨#[97, 98, 99, 100, 101, 102, 103, 104]⟩] 30)) (.cells #[.int .i64 1, .int .i64 2, .int .i64 17, .int .i64 4, .int .i64 3, .bool false, .bool false, .int .i64 8, .string ⟨#[105, 106]⟩] 30)) (.cells #[.int .i64 1, .int .i64 2, .int .i64 17, .int .i64 5, .int .i64 3, .bool false, .bool true, .int .i64 0, .string ⟨#[97, 98, 99, 100, 101, 102, 103, 88]⟩] 30))
  have Hb := Lib.hid (block_alloc (alloc_new' (w.alloc (.cells #[.int .i64 1, .int .i64 2, .int .i64 17, .int .i64 5, .int .i64 3, .bool false, .bool true, .int .i64 0, .string ⟨#[97, 98, 99, 100, 101, 102, 103, 104]⟩] 30)) (.cells #[.int .i64 1, .int .i64 2, .int .i64 17, .int .i64 4, .int .i64 3, .bool false, .bool false, .int .i64 8, .string ⟨#[105, 106]⟩] 30) (w.heap.size + 1) (by simp)) (.cells #[.int .i64 1, .int .i64 2, .int .i64 17, .int .i64 5, .int .i64 3, .bool false, .bool true, .int .i64 0, .string ⟨#[97, 98, 99, 100, 101, 102, 103, 88]⟩] 30))
  have Hc := Lib.hid (alloc_new' ((w.alloc (.cells #[.int .i64 1, .int .i64 2, .int .i64 17, .int .i64 5, .int .i64 3, .bool false, .bool true, .int .i64 0, .string ⟨#[97, 98, 99, 100, 101, 102, 103, 104]⟩] 30)).alloc (.cells #[.int .i64 1, .int .i64 2, .int .i64 17, .int .i64 4, .int .i64 3, .bool false, .bool false, .int .i64 8, .string ⟨#[105, 106]⟩] 30)) (.cells #[.int .i64 1, .int .i64 2, .int .i64 17, .int .i64 5, .int .i64 3, .bool false, .bool true, .int .i64 0, .string ⟨#[97, 98, 99, 100, 101, 102, 103, 88]⟩] 30) (w.heap.size + 2) (by simp))
  have HB := Lib.hid (below_alloc (o := .cells #[.int .i64 1, .int .i64 2, .int .i64 17, .int .i64 5, .int .i64 3, .bool false, .bool true, .int .i64 0, .string ⟨#[97, 98, 99, 100, 101, 102, 103, 88]⟩] 30) (below_alloc (o := .cells #[.int .i64 1, .int .i64 2, .int .i64 17, .int .i64 4, .int .i64 3, .bool false, .bool false, .int .i64 8, .string ⟨#[105, 106]⟩] 30) (below_alloc (o := .cells #[.int .i64 1, .int .i64 2, .int .i64 17, .int .i64 5, .int .i64 3, .bool false, .bool true, .int .i64 0, .string ⟨#[97, 98, 99, 100, 101, 102, 103, 104]⟩] 30) (Below.refl w.heap.size w))))
  go_enter Try.func12, Try.ntmps12
  go_wp2_with fail
  have ga0 : Hid ((((w.alloc (.cells #[.int .i64 1, .int .i64 2, .int .i64 17, .int .i64 5, .int .i64 3, .bool false, .bool true, .int .i64 0, .string ⟨#[97, 98, 99, 100, 101, 102, 103, 104]⟩] 30)).alloc (.cells #[.int .i64 1, .int .i64 2, .int .i64 17, .int .i64 4, .int .i64 3, .bool false, .bool false, .int .i64 8, .string ⟨#[105, 106]⟩] 30)).alloc (.cells #[.int .i64 1, .int .i64 2, .int .i64 17, .int .i64 5, .int .i64 3, .bool false, .bool true, .int .i64 0, .string ⟨#[97, 98, 99, 100, 101, 102, 103, 88]⟩] 30)).cell? ⟨w.heap.size, 0, none⟩ = some (.int .i64 1)) := Lib.hid (cell_of_block (k := 0) Ha.out rfl).1
  have ga1 : Hid ((((w.alloc (.cells #[.int .i64 1, .int .i64 2, .int .i64 17, .int .i64 5, .int .i64 3, .bool false, .bool true, .int .i64 0, .string ⟨#[97, 98, 99, 100, 101, 102, 103, 104]⟩] 30)).alloc (.cells #[.int .i64 1, .int .i64 2, .int .i64 17, .int .i64 4, .int .i64 3, .bool false, .bool false, .int .i64 8, .string ⟨#[105, 106]⟩] 30)).alloc (.cells #[.int .i64 1, .int .i64 2, .int .i64 17, .int .i64 5, .int .i64 3, .bool false, .bool true, .int .i64 0, .string ⟨#[97, 98, 99, 100, 101, 102, 103, 88]⟩] 30)).cell? ⟨w.heap.size, 1, none⟩ = some (.int .i64 2)) := Lib.hid (cell_of_block (k := 1) Ha.out rfl).1
  have ga2 : Hid ((((w.alloc (.cells #[.int .i64 1, .int .i64 2, .int .i64 17, .int .i64 5, .int .i64 3, .bool false, .bool true, .int .i64 0, .string ⟨#[97, 98, 99, 100, 101, 102, 103, 104]⟩] 30)).alloc (.cells #[.int .i64 1, .int .i64 2, .int .i64 17, .int .i64 4, .int .i64 3, .bool false, .bool false, .int .i64 8, .string ⟨#[105, 106]⟩] 30)).alloc (.cells #[.int .i64 1, .int .i64 2, .int .i64 17, .int .i64 5, .int .i64 3, .bool false, .bool true, .int .i64 0, .string ⟨#[97, 98, 99, 100, 101, 102, 103, 88]⟩] 30)).cell? ⟨w.heap.size, 2, none⟩ = some (.int .i64 17)) := Lib.hid (cell_of_block (k := 2) Ha.out rfl).1
  have ga3 : Hid ((((w.alloc (.cells #[.int .i64 1, .int .i64 2, .int .i64 17, .int .i64 5, .int .i64 3, .bool false, .bool true, .int .i64 0, .string ⟨#[97, 98, 99, 100, 101, 102, 103, 104]⟩] 30)).alloc (.cells #[.int .i64 1, .int .i64 2, .int .i64 17, .int .i64 4, .int .i64 3, .bool false, .bool false, .int .i64 8, .string ⟨#[105, 106]⟩] 30)).alloc (.cells #[.int .i64 1, .int .i64 2, .int .i64 17, .int .i64 5, .int .i64 3, .bool false, .bool true, .int .i64 0, .string ⟨#[97, 98, 99, 100, 101, 102, 103, 88]⟩] 30)).cell? ⟨w.heap.size, 3, none⟩ = some (.int .i64 5)) := Lib.hid (cell_of_block (k := 3) Ha.out rfl).1
  have ga4 : Hid ((((w.alloc (.cells #[.int .i64 1, .int .i64 2, .int .i64 17, .int .i64 5, .int .i64 3, .bool false, .bool true, .int .i64 0, .string ⟨#[97, 98, 99, 100, 101, 102, 103, 104]⟩] 30)).alloc (.cells #[.int .i64 1, .int .i64 2, .int .i64 17, .int .i64 4, .int .i64 3, .bool false, .bool false, .int .i64 8, .string ⟨#[105, 106]⟩] 30)).alloc (.cells #[.int .i64 1, .int .i64 2, .int .i64 17, .int .i64 5, .int .i64 3, .bool false, .bool true, .int .i64 0, .string ⟨#[97, 98, 99, 100, 101, 102, 103, 88]⟩] 30)).cell? ⟨w.heap.size, 4, none⟩ = some (.int .i64 3)) := Lib.hid (cell_of_block (k := 4) Ha.out rfl).1
  have ga5 : Hid ((((w.alloc (.cells #[.int .i64 1, .int .i64 2, .int .i64 17, .int .i64 5, .int .i64 3, .bool false, .bool true, .int .i64 0, .string ⟨#[97, 98, 99, 100, 101, 102, 103, 104]⟩] 30)).alloc (.cells #[.int .i64 1, .int .i64 2, .int .i64 17, .int .i64 4, .int .i64 3, .bool false, .bool false, .int .i64 8, .string ⟨#[105, 106]⟩] 30)).alloc (.cells #[.int .i64 1, .int .i64 2, .int .i64 17, .int .i64 5, .int .i64 3, .bool false, .bool true, .int .i64 0, .string ⟨#[97, 98, 99, 100, 101, 102, 103, 88]⟩] 30)).cell? ⟨w.heap.size, 5, none⟩ = some (.bool false)) := Lib.hid (cell_of_block (k := 5) Ha.out rfl).1
  have ga6 : Hid ((((w.alloc (.cells #[.int .i64 1, .int .i64 2, .int .i64 17, .int .i64 5, .int .i64 3, .bool false, .bool true, .int .i64 0, .string ⟨#[97, 98, 99, 100, 101, 102, 103, 104]⟩] 30)).alloc (.cells #[.int .i64 1, .int .i64 2, .int .i64 17, .int .i64 4, .int .i64 3, .bool false, .bool false, .int .i64 8, .string ⟨#[105, 106]⟩] 30)).alloc (.cells #[.int .i64 1, .int .i64 2, .int .i64 17, .int .i64 5, .int .i64 3, .bool false, .bool true, .int .i64 0, .string ⟨#[97, 98, 99, 100, 101, 102, 103, 88]⟩] 30)).cell? ⟨w.heap.size, 6, none⟩ = some (.bool true)) := Lib.hid (cell_of_block (k := 6) Ha.out rfl).1
  have ga7 : Hid ((((w.alloc (.cells #[.int .i64 1, .int .i64 2, .int .i64 17, .int .i64 5, .int .i64 3, .bool false, .bool true, .int .i64 0, .string ⟨#[97, 98, 99, 100, 101, 102, 103, 104]⟩] 30)).alloc (.cells #[.int .i64 1, .int .i64 2, .int .i64 17, .int .i64 4, .int .i64 3, .bool false, .bool false, .int .i64 8, .string ⟨#[105, 106]⟩] 30)).alloc (.cells #[.int .i64 1, .int .i64 2, .int .i64 17, .int .i64 5, .int .i64 3, .bool false, .bool true, .int .i64 0, .string ⟨#[97, 98, 99, 100, 101, 102, 103, 88]⟩] 30)).cell? ⟨w.heap.size, 7, none⟩ = some (.int .i64 0)) := Lib.hid (cell_of_block (k := 7) Ha.out rfl).1
  have ga8 : Hid ((((w.alloc (.cells #[.int .i64 1, .int .i64 2, .int .i64 17, .int .i64 5, .int .i64 3, .bool false, .bool true, .int .i64 0, .string ⟨#[97, 98, 99, 100, 101, 102, 103, 104]⟩] 30)).alloc (.cells #[.int .i64 1, .int .i64 2, .int .i64 17, .int .i64 4, .int .i64 3, .bool false, .bool false, .int .i64 8, .string ⟨#[105, 106]⟩] 30)).alloc (.cells #[.int .i64 1, .int .i64 2, .int .i64 17, .int .i64 5, .int .i64 3, .bool false, .bool true, .int .i64 0, .string ⟨#[97, 98, 99, 100, 101, 102, 103, 88]⟩] 30)).cell? ⟨w.heap.size, 8, none⟩ = some (.string ⟨#[97, 98, 99, 100, 101, 102, 103, 104]⟩)) := Lib.hid (cell_of_block (k := 8) Ha.out rfl).1
  have gb0 : Hid ((((w.alloc (.cells #[.int .i64 1, .int .i64 2, .int .i64 17, .int .i64 5, .int .i64 3, .bool false, .bool true, .int .i64 0, .string ⟨#[97, 98, 99, 100, 101, 102, 103, 104]⟩] 30)).alloc (.cells #[.int .i64 1, .int .i64 2, .int .i64 17, .int .i64 4, .int .i64 3, .bool false, .bool false, .int .i64 8, .string ⟨#[105, 106]⟩] 30)).alloc (.cells #[.int .i64 1, .int .i64 2, .int .i64 17, .int .i64 5, .int .i64 3, .bool false, .bool true, .int .i64 0, .string ⟨#[97, 98, 99, 100, 101, 102, 103, 88]⟩] 30)).cell? ⟨w.heap.size + 1, 0, none⟩ = some (.int .i64 1)) := Lib.hid (cell_of_block (k := 0) Hb.out rfl).1
  have gb1 : Hid ((((w.alloc (.cells #[.int .i64 1, .int .i64 2, .int .i64 17, .int .i64 5, .int .i64 3, .bool false, .bool true, .int .i64 0, .string ⟨#[97, 98, 99, 100, 101, 102, 103, 104]⟩] 30)).alloc (.cells #[.int .i64 1, .int .i64 2, .int .i64 17, .int .i64 4, .int .i64 3, .bool false, .bool false, .int .i64 8, .string ⟨#[105, 106]⟩] 30)).alloc (.cells #[.int .i64 1, .int .i64 2, .int .i64 17, .int .i64 5, .int .i64 3, .bool false, .bool true, .int .i64 0, .string ⟨#[97, 98, 99, 100, 101, 102, 103, 88]⟩] 30)).cell? ⟨w.heap.size + 1, 1, none⟩ = some (.int .i64 2)) := Lib.hid (cell_of_block (k := 1) Hb.out rfl).1
  have gb2 : Hid ((((w.alloc (.cells #[.int .i64 1, .int .i64 2, .int .i64 17, .int .i64 5, .int .i64 3, .bool false, .bool true, .int .i64 0, .string ⟨#[97, 98, 99, 100, 101, 102, 103, 104]⟩] 30)).alloc (.cells #[.int .i64 1, .int .i64 2, .int .i64 17, .int .i64 4, .int .i64 3, .bool false, .bool false, .int .i64 8, .string ⟨#[105, 106]⟩] 30)).alloc (.cells #[.int .i64 1, .int .i64 2, .int .i64 17, .int .i64 5, .int .i64 3, .bool false, .bool true, .int .i64 0, .string ⟨#[97, 98, 99, 100, 101, 102, 103, 88]⟩] 30)).cell? ⟨w.heap.size + 1, 2, none⟩ = some (.int .i64 17)) := Lib.hid (cell_of_block (k := 2) Hb.out rfl).1
  have gb3 : Hid ((((w.alloc (.cells #[.int .i64 1, .int .i64 2, .int .i64 17, .int .i64 5, .int .i64 3, .bool false, .bool true, .int .i64 0, .string ⟨#[97, 98, 99, 100, 101, 102, 103, 104]⟩] 30)).alloc (.cells #[.int .i64 1, .int .i64 2, .int .i64 17, .int .i64 4, .int .i64 3, .bool false, .bool false, .int .i64 8, .string ⟨#[105, 106]⟩] 30)).alloc (.cells #[.int .i64 1, .int .i64 2, .int .i64 17, .int .i64 5, .int .i64 3, .bool false, .bool true, .int .i64 0, .string ⟨#[97, 98, 99, 100, 101, 102, 103, 88]⟩] 30)).cell? ⟨w.heap.size + 1, 3, none⟩ = some (.int .i64 4)) := Lib.hid (cell_of_block (k := 3) Hb.out rfl).1
  have gb4 : Hid ((((w.alloc (.cells #[.int .i64 1, .int .i64 2, .int .i64 17, .int .i64 5, .int .i64 3, .bool false, .bool true, .int .i64 0, .string ⟨#[97, 98, 99, 100, 101, 102, 103, 104]⟩] 30)).alloc (.cells #[.int .i64 1, .int .i64 2, .int .i64 17, .int .i64 4, .int .i64 3, .bool false, .bool false, .int .i64 8, .string ⟨#[105, 106]⟩] 30)).alloc (.cells #[.int .i64 1, .int .i64 2, .int .i64 17, .int .i64 5, .int .i64 3, .bool false, .bool true, .int .i64 0, .string ⟨#[97, 98, 99, 100, 101, 102, 103, 88]⟩] 30)).cell? ⟨w.heap.size + 1, 4, none⟩ = some (.int .i64 3)) := Lib.hid (cell_of_block (k := 4) Hb.out rfl).1
  have gb5 : Hid ((((w.alloc (.cells #[.int .i64 1, .int .i64 2, .int .i64 17, .int .i64 5, .int .i64 3, .bool false, .bool true, .int .i64 0, .string ⟨#[97, 98, 99, 100, 101, 102, 103, 104]⟩] 30)).alloc (.cells #[.int .i64 1, .int .i64 2, .int .i64 17, .int .i64 4, .int .i64 3, .bool false, .bool false, .int .i64 8, .string ⟨#[105, 106]⟩] 30)).alloc (.cells #[.int .i64 1, .int .i64 2, .int .i64 17, .int .i64 5, .int .i64 3, .bool false, .bool true, .int .i64 0, .string ⟨#[97, 98, 99, 100, 101, 102, 103, 88]⟩] 30)).cell? ⟨w.heap.size + 1, 5, none⟩ = some (.bool false)) := Lib.hid (cell_of_block (k := 5) Hb.out rfl).1
  have gb6 : Hid ((((w.alloc (.cells #[.int .i64 1, .int .i64 2, .int .i64 17, .int .i64 5, .int .i64 3, .bool false, .bool true, .int .i64 0, .string ⟨#[97, 98, 99, 100, 101, 102, 103, 104]⟩] 30)).alloc (.cells #[.int .i64 1, .int .i64 2, .int .i64 17, .int .i64 4, .int .i64 3, .bool false, .bool false, .int .i64 8, .string ⟨#[105, 106]⟩] 30)).alloc (.cells #[.int .i64 1, .int .i64 2, .int .i64 17, .int .i64 5, .int .i64 3, .bool false, .bool true, .int .i64 0, .string ⟨#[97, 98, 99, 100, 101, 102, 103, 88]⟩] 30)).cell? ⟨w.heap.size + 1, 6, none⟩ = some (.bool false)) := Lib.hid (cell_of_block (k := 6) Hb.out rfl).1
  have gb7 : Hid ((((w.alloc (.cells #[.int .i64 1, .int .i64 2, .int .i64 17, .int .i64 5, .int .i64 3, .bool false, .bool true, .int .i64 0, .string ⟨#[97, 98, 99, 100, 101, 102, 103, 104]⟩] 30)).alloc (.cells #[.int .i64 1, .int .i64 2, .int .i64 17, .int .i64 4, .int .i64 3, .bool false, .bool false, .int .i64 8, .string ⟨#[105, 106]⟩] 30)).alloc (.cells #[.int .i64 1, .int .i64 2, .int .i64 17, .int .i64 5, .int .i64 3, .bool false, .bool true, .int .i64 0, .string ⟨#[97, 98, 99, 100, 101, 102, 103, 88]⟩] 30)).cell? ⟨w.heap.size + 1, 7, none⟩ = some (.int .i64 8)) := Lib.hid (cell_of_block (k := 7) Hb.out rfl).1
  have gb8 : Hid ((((w.alloc (.cells #[.int .i64 1, .int .i64 2, .int .i64 17, .int .i64 5, .int .i64 3, .bool false, .bool true, .int .i64 0, .string ⟨#[97, 98, 99, 100, 101, 102, 103, 104]⟩] 30)).alloc (.cells #[.int .i64 1, .int .i64 2, .int .i64 17, .int .i64 4, .int .i64 3, .bool false, .bool false, .int .i64 8, .string ⟨#[105, 106]⟩] 30)).alloc (.cells #[.int .i64 1, .int .i64 2, .int .i64 17, .int .i64 5, .int .i64 3, .bool false, .bool true, .int .i64 0, .string ⟨#[97, 98, 99, 100, 101, 102, 103, 88]⟩] 30)).cell? ⟨w.heap.size + 1, 8, none⟩ = some (.string ⟨#[105, 106]⟩)) := Lib.hid (cell_of_block (k := 8) Hb.out rfl).1
  have gc0 : Hid ((((w.alloc (.cells #[.int .i64 1, .int .i64 2, .int .i64 17, .int .i64 5, .int .i64 3, .bool false, .bool true, .int .i64 0, .string ⟨#[97, 98, 99, 100, 101, 102, 103, 104]⟩] 30)).alloc (.cells #[.int .i64 1, .int .i64 2, .int .i64 17, .int .i64 4, .int .i64 3, .bool false, .bool false, .int .i64 8, .string ⟨#[105, 106]⟩] 30)).alloc (.cells #[.int .i64 1, .int .i64 2, .int .i64 17, .int .i64 5, .int .i64 3, .bool false, .bool true, .int .i64 0, .string ⟨#[97, 98, 99, 100, 101, 102, 103, 88]⟩] 30)).cell? ⟨w.heap.size + 1 + 1, 0, none⟩ = some (.int .i64 1)) := Lib.hid (cell_of_block (k := 0) Hc.out rfl).1
  have gc1 : Hid ((((w.alloc (.cells #[.int .i64 1, .int .i64 2, .int .i64 17, .int .i64 5, .int .i64 3, .bool false, .bool true, .int .i64 0, .string ⟨#[97, 98, 99, 100, 101, 102, 103, 104]⟩] 30)).alloc (.cells #[.int .i64 1, .int .i64 2, .int .i64 17, .int .i64 4, .int .i64 3, .bool false, .bool false, .int .i64 8, .string ⟨#[105, 106]⟩] 30)).alloc (.cells #[.int .i64 1, .int .i64 2, .int .i64 17, .int .i64 5, .int .i64 3, .bool false, .bool true, .int .i64 0, .string ⟨#[97, 98, 99, 100, 101, 102, 103, 88]⟩] 30)).cell? ⟨w.heap.size + 1 + 1, 1, none⟩ = some (.int .i64 2)) := Lib.hid (cell_of_block (k := 1) Hc.out rfl).1
  have gc2 : Hid ((((w.alloc (.cells #[.int .i64 1, .int .i64 2, .int .i64 17, .int .i64 5, .int .i64 3, .bool false, .bool true, .int .i64 0, .string ⟨#[97, 98, 99, 100, 101, 102, 103, 104]⟩] 30)).alloc (.cells #[.int .i64 1, .int .i64 2, .int .i64 17, .int .i64 4, .int .i64 3, .bool false, .bool false, .int .i64 8, .string ⟨#[105, 106]⟩] 30)).alloc (.cells #[.int .i64 1, .int .i64 2, .int .i64 17, .int .i64 5, .int .i64 3, .bool false, .bool true, .int .i64 0, .string ⟨#[97, 98, 99, 100, 101, 102, 103, 88]⟩] 30)).cell? ⟨w.heap.size + 1 + 1, 2, none⟩ = some (.int .i64 17)) := Lib.hid (cell_of_block (k := 2) Hc.out rfl).1
  have gc3 : Hid ((((w.alloc (.cells #[.int .i64 1, .int .i64 2, .int .i64 17, .int .i64 5, .int .i64 3, .bool false, .bool true, .int .i64 0, .string ⟨#[97, 98, 99, 100, 101, 102, 103, 104]⟩] 30)).alloc (.cells #[.int .i64 1, .int .i64 2, .int .i64 17, .int .i64 4, .int .i64 3, .bool false, .bool false, .int .i64 8, .string ⟨#[105, 106]⟩] 30)).alloc (.cells #[.int .i64 1, .int .i64 2, .int .i64 17, .int .i64 5, .int .i64 3, .bool false, .bool true, .int .i64 0, .string ⟨#[97, 98, 99, 100, 101, 102, 103, 88]⟩] 30)).cell? ⟨w.heap.size + 1 + 1, 3, none⟩ = some (.int .i64 5)) := Lib.hid (cell_of_block (k := 3) Hc.out rfl).1
  have gc4 : Hid ((((w.alloc (.cells #[.int .i64 1, .int .i64 2, .int .i64 17, .int .i64 5, .int .i64 3, .bool false, .bool true, .int .i64 0, .string ⟨#[97, 98, 99, 100, 101, 102, 103, 104]⟩] 30)).alloc (.cells #[.int .i64 1, .int .i64 2, .int .i64 17, .int .i64 4, .int .i64 3, .bool false, .bool false, .int .i64 8, .string ⟨#[105, 106]⟩] 30)).alloc (.cells #[.int .i64 1, .int .i64 2, .int .i64 17, .int .i64 5, .int .i64 3, .bool false, .bool true, .int .i64 0, .string ⟨#[97, 98, 99, 100, 101, 102, 103, 88]⟩] 30)).cell? ⟨w.heap.size + 1 + 1, 4, none⟩ = some (.int .i64 3)) := Lib.hid (cell_of_block (k := 4) Hc.out rfl).1
  have gc5 : Hid ((((w.alloc (.cells #[.int .i64 1, .int .i64 2, .int .i64 17, .int .i64 5, .int .i64 3, .bool false, .bool true, .int .i64 0, .string ⟨#[97, 98, 99, 100, 101, 102, 103, 104]⟩] 30)).alloc (.cells #[.int .i64 1, .int .i64 2, .int .i64 17, .int .i64 4, .int .i64 3, .bool false, .bool false, .int .i64 8, .string ⟨#[105, 106]⟩] 30)).alloc (.cells #[.int .i64 1, .int .i64 2, .int .i64 17, .int .i64 5, .int .i64 3, .bool false, .bool true, .int .i64 0, .string ⟨#[97, 98, 99, 100, 101, 102, 103, 88]⟩] 30)).cell? ⟨w.heap.size + 1 + 1, 5, none⟩ = some (.bool false)) := Lib.hid (cell_of_block (k := 5) Hc.out rfl).1
  have gc6 : Hid ((((w.alloc (.cells #[.int .i64 1, .int .i64 2, .int .i64 17, .int .i64 5, .int .i64 3, .bool false, .bool true, .int .i64 0, .string ⟨#[97, 98, 99, 100, 101, 102, 103, 104]⟩] 30)).alloc (.cells #[.int .i64 1, .int .i64 2, .int .i64 17, .int .i64 4, .int .i64 3, .bool false, .bool false, .int .i64 8, .string ⟨#[105, 106]⟩] 30)).alloc (.cells #[.int .i64 1, .int .i64 2, .int .i64 17, .int .i64 5, .int .i64 3, .bool false, .bool true, .int .i64 0, .string ⟨#[97, 98, 99, 100, 101, 102, 103, 88]⟩] 30)).cell? ⟨w.heap.size + 1 + 1, 6, none⟩ = some (.bool true)) := Lib.hid (cell_of_block (k := 6) Hc.out rfl).1
  have gc7 : Hid ((((w.alloc (.cells #[.int .i64 1, .int .i64 2, .int .i64 17, .int .i64 5, .int .i64 3, .bool false, .bool true, .int .i64 0, .string ⟨#[97, 98, 99, 100, 101, 102, 103, 104]⟩] 30)).alloc (.cells #[.int .i64 1, .int .i64 2, .int .i64 17, .int .i64 4, .int .i64 3, .bool false, .bool false, .int .i64 8, .string ⟨#[105, 106]⟩] 30)).alloc (.cells #[.int .i64 1, .int .i64 2, .int .i64 17, .int .i64 5, .int .i64 3, .bool false, .bool true, .int .i64 0, .string ⟨#[97, 98, 99, 100, 101, 102, 103, 88]⟩] 30)).cell? ⟨w.heap.size + 1 + 1, 7, none⟩ = some (.int .i64 0)) := Lib.hid (cell_of_block (k := 7) Hc.out rfl).1
  have gc8 : Hid ((((w.alloc (.cells #[.int .i64 1, .int .i64 2, .int .i64 17, .int .i64 5, .int .i64 3, .bool false, .bool true, .int .i64 0, .string ⟨#[97, 98, 99, 100, 101, 102, 103, 104]⟩] 30)).alloc (.cells #[.int .i64 1, .int .i64 2, .int .i64 17, .int .i64 4, .int .i64 3, .bool false, .bool false, .int .i64 8, .string ⟨#[105, 106]⟩] 30)).alloc (.cells #[.int .i64 1, .int .i64 2, .int .i64 17, .int .i64 5, .int .i64 3, .bool false, .bool true, .int .i64 0, .string ⟨#[97, 98, 99, 100, 101, 102, 103, 88]⟩] 30)).cell? ⟨w.heap.size + 1 + 1, 8, none⟩ = some (.string ⟨#[97, 98, 99, 100, 101, 102, 103, 88]⟩)) := Lib.hid (cell_of_block (k := 8) Hc.out rfl).1
  generalize (((w.alloc (.cells #[.int .i64 1, .int .i64 2, .int .i64 17, .int .i64 5, .int .i64 3, .bool false, .bool true, .int .i64 0, .string ⟨#[97, 98, 99, 100, 101, 102, 103, 104]⟩] 30)).alloc (.cells #[.int .i64 1, .int .i64 2, .int .i64 17, .int .i64 4, .int .i64 3, .bool false, .bool false, .int .i64 8, .string ⟨#[105, 106]⟩] 30)).alloc (.cells #[.int .i64 1, .int .i64 2, .int .i64 17, .int .i64 5, .int .i64 3, .bool false, .bool true, .int .i64 0, .string ⟨#[97, 98, 99, 100, 101, 102, 103, 88]⟩] 30)) = W0 at *
  refine (new_tt W0).mono ?_
  rintro x w1 ⟨T1, S1, rfl, t1, b1, n1⟩
  have Ht1 := Lib.hid t1; have Hn1 := Lib.hid n1; have Hb1 := Lib.hid b1; clear t1 n1 b1
  go_wp2_with fail
  refine (new_tt w1).mono ?_
  rintro x w2 ⟨T2, S2, rfl, t2, b2, n2⟩
  have Ht2 := Lib.hid t2; have Hn2 := Lib.hid n2; have Hb2 := Lib.hid b2; clear t2 n2 b2
  go_wp2_with fail
  refine (new_tt w2).mono ?_
  rintro x w3 ⟨T3, S3, rfl, t3, b3, n3⟩
  have HE : Hid (E3 W0 w3 T1 T2 T3 [] [] []) := Lib.hid ⟨⟨S1, S2, S3, (Ht1.out.below Hb2.out).below b3, Ht2.out.below b3, t3, fun q hq => ⟨Hn1.out q hq, fun r => by have := Hn2.out q r; have := Ht1.out.lt q hq; omega, fun r => by have := n3 q r; have := Ht1.out.lt q hq; have := Hb2.out.size; omega⟩, fun q hq => ⟨by have := Hn2.out q hq; have := Hb1.out.size; omega, fun r => by have := n3 q r; have := Ht2.out.lt q hq; omega⟩, fun q hq => by have := n3 q hq; have := Hb1.out.size; have := Hb2.out.size; omega⟩, below_call (below_call Hb1.out Hb2.out) b3⟩
  clear Ht1 Hn1 Hb1 Ht2 Hn2 Hb2 t3 n3 b3
  go_upto_region 8 with fail
  go_region_held3 (fun w' => w'.cell? ⟨w.heap.size, 0, none⟩ = some (.int .i64 1) ∧ w'.cell? ⟨w.heap.size, 1, none⟩ = some (.int .i64 2) ∧ w'.cell? ⟨w.heap.size, 2, none⟩ = some (.int .i64 17) ∧ w'.cell? ⟨w.heap.size, 3, none⟩ = some (.int .i64 5) ∧ w'.cell? ⟨w.heap.size, 4, none⟩ = some (.int .i64 3) ∧ w'.cell? ⟨w.heap.size, 5, none⟩ = some (.bool false) ∧ w'.cell? ⟨w.heap.size, 6, none⟩ = some (.bool true) ∧ w'.cell? ⟨w.heap.size, 7, none⟩ = some (.int .i64 0) ∧ w'.cell? ⟨w.heap.size, 8, none⟩ = some (.string ⟨#[97, 98, 99, 100, 101, 102, 103, 104]⟩) ∧ w'.cell? ⟨w.heap.size + 1, 0, none⟩ = some (.int .i64 1) ∧ w'.cell? ⟨w.heap.size + 1, 1, none⟩ = some (.int .i64 2) ∧ w'.cell? ⟨w.heap.size + 1, 2, none⟩ = some (.int .i64 17) ∧ w'.cell? ⟨w.heap.size + 1, 3, none⟩ = some (.int .i64 4) ∧ w'.cell? ⟨w.heap.size + 1, 4, none⟩ = some (.int .i64 3) ∧ w'.cell? ⟨w.heap.size + 1, 5, none⟩ = some (.bool false) ∧ w'.cell? ⟨w.heap.size + 1, 6, none⟩ = some (.bool false) ∧ w'.cell? ⟨w.heap.size + 1, 7, none⟩ = some (.int .i64 8) ∧ w'.cell? ⟨w.heap.size + 1, 8, none⟩ = some (.string ⟨#[105, 106]⟩) ∧ Below W0.heap.size W0 w') (first | with_reducible exact ⟨bcell (hep2.out.bel) ga0.out, bcell (hep2.out.bel) ga1.out, bcell (hep2.out.bel) ga2.out, bcell (hep2.out.bel) ga3.out, bcell (hep2.out.bel) ga4.out, bcell (hep2.out.bel) ga5.out, bcell (hep2.out.bel) ga6.out, bcell (hep2.out.bel) ga7.out, bcell (hep2.out.bel) ga8.out, bcell (hep2.out.bel) gb0.out, bcell (hep2.out.bel) gb1.out, bcell (hep2.out.bel) gb2.out, bcell (hep2.out.bel) gb3.out, bcell (hep2.out.bel) gb4.out, bcell (hep2.out.bel) gb5.out, bcell (hep2.out.bel) gb6.out, bcell (hep2.out.bel) gb7.out, bcell (hep2.out.bel) gb8.out, hep2.out.bel⟩ | with_reducible exact ⟨bcell (hep1.out.bel) ga0.out, bcell (hep1.out.bel) ga1.out, bcell (hep1.out.bel) ga2.out, bcell (hep1.out.bel) ga3.out, bcell (hep1.out.bel) ga4.out, bcell (hep1.out.bel) ga5.out, bcell (hep1.out.bel) ga6.out, bcell (hep1.out.bel) ga7.out, bcell (hep1.out.bel) ga8.out, bcell (hep1.out.bel) gb0.out, bcell (hep1.out.bel) gb1.out, bcell (hep1.out.bel) gb2.out, bcell (hep1.out.bel) gb3.out, bcell (hep1.out.bel) gb4.out, bcell (hep1.out.bel) gb5.out, bcell (hep1.out.bel) gb6.out, bcell (hep1.out.bel) gb7.out, bcell (hep1.out.bel) gb8.out, hep1.out.bel⟩ | exact ⟨bcell (HE.out.bel.drew) ga0.out, bcell (HE.out.bel.drew) ga1.out, bcell (HE.out.bel.drew) ga2.out, bcell (HE.out.bel.drew) ga3.out, bcell (HE.out.bel.drew) ga4.out, bcell (HE.out.bel.drew) ga5.out, bcell (HE.out.bel.drew) ga6.out, bcell (HE.out.bel.drew) ga7.out, bcell (HE.out.bel.drew) ga8.out, bcell (HE.out.bel.drew) gb0.out, bcell (HE.out.bel.drew) gb1.out, bcell (HE.out.bel.drew) gb2.out, bcell (HE.out.bel.drew) gb3.out, bcell (HE.out.bel.drew) gb4.out, bcell (HE.out.bel.drew) gb5.out, bcell (HE.out.bel.drew) gb6.out, bcell (HE.out.bel.drew) gb7.out, bcell (HE.out.bel.drew) gb8.out, HE.out.bel.drew⟩)
    (first | (go_at_call 24; have _t := hep1; clear _t; refine (xC2 hep1.out).mono ?_; rintro e vp2 ⟨rfl, hE⟩; have hep2 := Lib.hid hE; clear hE) | (go_at_call 24; refine (xC1 (HE.out.below ((Below.refl _ _).drew))).mono ?_; rintro e vp1 ⟨rfl, hE⟩; have hep1 := Lib.hid hE; clear hE))
  clear HE; have HE := hep2; clear hep1 hep2
  go_upto_region 9 with fail
  go_region_held3 (fun w' => w'.cell? ⟨w.heap.size, 0, none⟩ = some (.int .i64 1) ∧ w'.cell? ⟨w.heap.size, 1, none⟩ = some (.int .i64 2) ∧ w'.cell? ⟨w.heap.size, 2, none⟩ = some (.int .i64 17) ∧ w'.cell? ⟨w.heap.size, 3, none⟩ = some (.int .i64 5) ∧ w'.cell? ⟨w.heap.size, 4, none⟩ = some (.int .i64 3) ∧ w'.cell? ⟨w.heap.size, 5, none⟩ = some (.bool false) ∧ w'.cell? ⟨w.heap.size, 6, none⟩ = some (.bool true) ∧ w'.cell? ⟨w.heap.size, 7, none⟩ = some (.int .i64 0) ∧ w'.cell? ⟨w.heap.size, 8, none⟩ = some (.string ⟨#[97, 98, 99, 100, 101, 102, 103, 104]⟩) ∧ w'.cell? ⟨w.heap.size + 1, 0, none⟩ = some (.int .i64 1) ∧ w'.cell? ⟨w.heap.size + 1, 1, none⟩ = some (.int .i64 2) ∧ w'.cell? ⟨w.heap.size + 1, 2, none⟩ = some (.int .i64 17) ∧ w'.cell? ⟨w.heap.size + 1, 3, none⟩ = some (.int .i64 4) ∧ w'.cell? ⟨w.heap.size + 1, 4, none⟩ = some (.int .i64 3) ∧ w'.cell? ⟨w.heap.size + 1, 5, none⟩ = some (.bool false) ∧ w'.cell? ⟨w.heap.size + 1, 6, none⟩ = some (.bool false) ∧ w'.cell? ⟨w.heap.size + 1, 7, none⟩ = some (.int .i64 8) ∧ w'.cell? ⟨w.heap.size + 1, 8, none⟩ = some (.string ⟨#[105, 106]⟩) ∧ Below W0.heap.size W0 w') (first | with_reducible exact ⟨bcell (heq3.out.bel) ga0.out, bcell (heq3.out.bel) ga1.out, bcell (heq3.out.bel) ga2.out, bcell (heq3.out.bel) ga3.out, bcell (heq3.out.bel) ga4.out, bcell (heq3.out.bel) ga5.out, bcell (heq3.out.bel) ga6.out, bcell (heq3.out.bel) ga7.out, bcell (heq3.out.bel) ga8.out, bcell (heq3.out.bel) gb0.out, bcell (heq3.out.bel) gb1.out, bcell (heq3.out.bel) gb2.out, bcell (heq3.out.bel) gb3.out, bcell (heq3.out.bel) gb4.out, bcell (heq3.out.bel) gb5.out, bcell (heq3.out.bel) gb6.out, bcell (heq3.out.bel) gb7.out, bcell (heq3.out.bel) gb8.out, heq3.out.bel⟩ | with_reducible exact ⟨bcell (heq2.out.bel) ga0.out, bcell (heq2.out.bel) ga1.out, bcell (heq2.out.bel) ga2.out, bcell (heq2.out.bel) ga3.out, bcell (heq2.out.bel) ga4.out, bcell (heq2.out.bel) ga5.out, bcell (heq2.out.bel) ga6.out, bcell (heq2.out.bel) ga7.out, bcell (heq2.out.bel) ga8.out, bcell (heq2.out.bel) gb0.out, bcell (heq2.out.bel) gb1.out, bcell (heq2.out.bel) gb2.out, bcell (heq2.out.bel) gb3.out, bcell (heq2.out.bel) gb4.out, bcell (heq2.out.bel) gb5.out, bcell (heq2.out.bel) gb6.out, bcell (heq2.out.bel) gb7.out, bcell (heq2.out.bel) gb8.out, heq2.out.bel⟩ | with_reducible exact ⟨bcell (heq1.out.bel) ga0.out, bcell (heq1.out.bel) ga1.out, bcell (heq1.out.bel) ga2.out, bcell (heq1.out.bel) ga3.out, bcell (heq1.out.bel) ga4.out, bcell (heq1.out.bel) ga5.out, bcell (heq1.out.bel) ga6.out, bcell (heq1.out.bel) ga7.out, bcell (heq1.out.bel) ga8.out, bcell (heq1.out.bel) gb0.out, bcell (heq1.out.bel) gb1.out, bcell (heq1.out.bel) gb2.out, bcell (heq1.out.bel) gb3.out, bcell (heq1.out.bel) gb4.out, bcell (heq1.out.bel) gb5.out, bcell (heq1.out.bel) gb6.out, bcell (heq1.out.bel) gb7.out, bcell (heq1.out.bel) gb8.out, heq1.out.bel⟩ | exact ⟨bcell (HE.out.bel.drew) ga0.out, bcell (HE.out.bel.drew) ga1.out, bcell (HE.out.bel.drew) ga2.out, bcell (HE.out.bel.drew) ga3.out, bcell (HE.out.bel.drew) ga4.out, bcell (HE.out.bel.drew) ga5.out, bcell (HE.out.bel.drew) ga6.out, bcell (HE.out.bel.drew) ga7.out, bcell (HE.out.bel.drew) ga8.out, bcell (HE.out.bel.drew) gb0.out, bcell (HE.out.bel.drew) gb1.out, bcell (HE.out.bel.drew) gb2.out, bcell (HE.out.bel.drew) gb3.out, bcell (HE.out.bel.drew) gb4.out, bcell (HE.out.bel.drew) gb5.out, bcell (HE.out.bel.drew) gb6.out, bcell (HE.out.bel.drew) gb7.out, bcell (HE.out.bel.drew) gb8.out, HE.out.bel.drew⟩)
    (first | (go_at_call 24; have _t := heq2; clear _t; refine (xD3 heq2.out).mono ?_; rintro e vq3 ⟨rfl, hE⟩; have heq3 := Lib.hid hE; clear hE) | (go_at_call 24; have _t := heq1; clear _t; refine (xD2 heq1.out).mono ?_; rintro e vq2 ⟨rfl, hE⟩; have heq2 := Lib.hid hE; clear hE) | (go_at_call 24; refine (xD1 (HE.out.below ((Below.refl _ _).drew))).mono ?_; rintro e vq1 ⟨rfl, hE⟩; have heq1 := Lib.hid hE; clear hE))
  clear HE; have HE := heq3; clear heq1 heq2 heq3
  go_upto_region 10 with fail
  go_region_held3 (fun w' => w'.cell? ⟨w.heap.size, 0, none⟩ = some (.int .i64 1) ∧ w'.cell? ⟨w.heap.size, 1, none⟩ = some (.int .i64 2) ∧ w'.cell? ⟨w.heap.size, 2, none⟩ = some (.int .i64 17) ∧ w'.cell? ⟨w.heap.size, 3, none⟩ = some (.int .i64 5) ∧ w'.cell? ⟨w.heap.size, 4, none⟩ = some (.int .i64 3) ∧ w'.cell? ⟨w.heap.size, 5, none⟩ = some (.bool false) ∧ w'.cell? ⟨w.heap.size, 6, none⟩ = some (.bool true) ∧ w'.cell? ⟨w.heap.size, 7, none⟩ = some (.int .i64 0) ∧ w'.cell? ⟨w.heap.size, 8, none⟩ = some (.string ⟨#[97, 98, 99, 100, 101, 102, 103, 104]⟩) ∧ w'.cell? ⟨w.heap.size + 1, 0, none⟩ = some (.int .i64 1) ∧ w'.cell? ⟨w.heap.size + 1, 1, none⟩ = some (.int .i64 2) ∧ w'.cell? ⟨w.heap.size + 1, 2, none⟩ = some (.int .i64 17) ∧ w'.cell? ⟨w.heap.size + 1, 3, none⟩ = some (.int .i64 4) ∧ w'.cell? ⟨w.heap.size + 1, 4, none⟩ = some (.int .i64 3) ∧ w'.cell? ⟨w.heap.size + 1, 5, none⟩ = some (.bool false) ∧ w'.cell? ⟨w.heap.size + 1, 6, none⟩ = some (.bool false) ∧ w'.cell? ⟨w.heap.size + 1, 7, none⟩ = some (.int .i64 8) ∧ w'.cell? ⟨w.heap.size + 1, 8, none⟩ = some (.string ⟨#[105, 106]⟩) ∧ w'.cell? ⟨w.heap.size + 1 + 1, 0, none⟩ = some (.int .i64 1) ∧ w'.cell? ⟨w.heap.size + 1 + 1, 1, none⟩ = some (.int .i64 2) ∧ w'.cell? ⟨w.heap.size + 1 + 1, 2, none⟩ = some (.int .i64 17) ∧ w'.cell? ⟨w.heap.size + 1 + 1, 3, none⟩ = some (.int .i64 5) ∧ w'.cell? ⟨w.heap.size + 1 + 1, 4, none⟩ = some (.int .i64 3) ∧ w'.cell? ⟨w.heap.size + 1 + 1, 5, none⟩ = some (.bool false) ∧ w'.cell? ⟨w.heap.size + 1 + 1, 6, none⟩ = some (.bool true) ∧ w'.cell? ⟨w.heap.size + 1 + 1, 7, none⟩ = some (.int .i64 0) ∧ w'.cell? ⟨w.heap.size + 1 + 1, 8, none⟩ = some (.string ⟨#[97, 98, 99, 100, 101, 102, 103, 88]⟩) ∧ Below W0.heap.size W0 w') (first | with_reducible exact ⟨bcell (her3.out.bel) ga0.out, bcell (her3.out.bel) ga1.out, bcell (her3.out.bel) ga2.out, bcell (her3.out.bel) ga3.out, bcell (her3.out.bel) ga4.out, bcell (her3.out.bel) ga5.out, bcell (her3.out.bel) ga6.out, bcell (her3.out.bel) ga7.out, bcell (her3.out.bel) ga8.out, bcell (her3.out.bel) gb0.out, bcell (her3.out.bel) gb1.out, bcell (her3.out.bel) gb2.out, bcell (her3.out.bel) gb3.out, bcell (her3.out.bel) gb4.out, bcell (her3.out.bel) gb5.out, bcell (her3.out.bel) gb6.out, bcell (her3.out.bel) gb7.out, bcell (her3.out.bel) gb8.out, bcell (her3.out.bel) gc0.out, bcell (her3.out.bel) gc1.out, bcell (her3.out.bel) gc2.out, bcell (her3.out.bel) gc3.out, bcell (her3.out.bel) gc4.out, bcell (her3.out.bel) gc5.out, bcell (her3.out.bel) gc6.out, bcell (her3.out.bel) gc7.out, bcell (her3.out.bel) gc8.out, her3.out.bel⟩ | with_reducible exact ⟨bcell (her2.out.bel) ga0.out, bcell (her2.out.bel) ga1.out, bcell (her2.out.bel) ga2.out, bcell (her2.out.bel) ga3.out, bcell (her2.out.bel) ga4.out, bcell (her2.out.bel) ga5.out, bcell (her2.out.bel) ga6.out, bcell (her2.out.bel) ga7.out, bcell (her2.out.bel) ga8.out, bcell (her2.out.bel) gb0.out, bcell (her2.out.bel) gb1.out, bcell (her2.out.bel) gb2.out, bcell (her2.out.bel) gb3.out, bcell (her2.out.bel) gb4.out, bcell (her2.out.bel) gb5.out, bcell (her2.out.bel) gb6.out, bcell (her2.out.bel) gb7.out, bcell (her2.out.bel) gb8.out, bcell (her2.out.bel) gc0.out, bcell (her2.out.bel) gc1.out, bcell (her2.out.bel) gc2.out, bcell (her2.out.bel) gc3.out, bcell (her2.out.bel) gc4.out, bcell (her2.out.bel) gc5.out, bcell (her2.out.bel) gc6.out, bcell (her2.out.bel) gc7.out, bcell (her2.out.bel) gc8.out, her2.out.bel⟩ | with_reducible exact ⟨bcell (her1.out.bel) ga0.out, bcell (her1.out.bel) ga1.out, bcell (her1.out.bel) ga2.out, bcell (her1.out.bel) ga3.out, bcell (her1.out.bel) ga4.out, bcell (her1.out.bel) ga5.out, bcell (her1.out.bel) ga6.out, bcell (her1.out.bel) ga7.out, bcell (her1.out.bel) ga8.out, bcell (her1.out.bel) gb0.out, bcell (her1.out.bel) gb1.out, bcell (her1.out.bel) gb2.out, bcell (her1.out.bel) gb3.out, bcell (her1.out.bel) gb4.out, bcell (her1.out.bel) gb5.out, bcell (her1.out.bel) gb6.out, bcell (her1.out.bel) gb7.out, bcell (her1.out.bel) gb8.out, bcell (her1.out.bel) gc0.out, bcell (her1.out.bel) gc1.out, bcell (her1.out.bel) gc2.out, bcell (her1.out.bel) gc3.out, bcell (her1.out.bel) gc4.out, bcell (her1.out.bel) gc5.out, bcell (her1.out.bel) gc6.out, bcell (her1.out.bel) gc7.out, bcell (her1.out.bel) gc8.out, her1.out.bel⟩ | exact ⟨bcell (HE.out.bel.drew) ga0.out, bcell (HE.out.bel.drew) ga1.out, bcell (HE.out.bel.drew) ga2.out, bcell (HE.out.bel.drew) ga3.out, bcell (HE.out.bel.drew) ga4.out, bcell (HE.out.bel.drew) ga5.out, bcell (HE.out.bel.drew) ga6.out, bcell (HE.out.bel.drew) ga7.out, bcell (HE.out.bel.drew) ga8.out, bcell (HE.out.bel.drew) gb0.out, bcell (HE.out.bel.drew) gb1.out, bcell (HE.out.bel.drew) gb2.out, bcell (HE.out.bel.drew) gb3.out, bcell (HE.out.bel.drew) gb4.out, bcell (HE.out.bel.drew) gb5.out, bcell (HE.out.bel.drew) gb6.out, bcell (HE.out.bel.drew) gb7.out, bcell (HE.out.bel.drew) gb8.out, bcell (HE.out.bel.drew) gc0.out, bcell (HE.out.bel.drew) gc1.out, bcell (HE.out.bel.drew) gc2.out, bcell (HE.out.bel.drew) gc3.out, bcell (HE.out.bel.drew) gc4.out, bcell (HE.out.bel.drew) gc5.out, bcell (HE.out.bel.drew) gc6.out, bcell (HE.out.bel.drew) gc7.out, bcell (HE.out.bel.drew) gc8.out, HE.out.bel.drew⟩)
    (first | (go_at_call 24; have _t := her2; clear _t; refine (xF3 her2.out).mono ?_; rintro e vr3 ⟨rfl, hE⟩; have her3 := Lib.hid hE; clear hE) | (go_at_call 24; have _t := her1; clear _t; refine (xF2 her1.out).mono ?_; rintro e vr2 ⟨rfl, hE⟩; have her2 := Lib.hid hE; clear hE) | (go_at_call 24; refine (xF1 (HE.out.below ((Below.refl _ _).drew))).mono ?_; rintro e vr1 ⟨rfl, hE⟩; have her1 := Lib.hid hE; clear hE))
  clear HE; have HE := her3; clear her1 her2 her3
  go_wp2_with fail
  refine (xS2 HE.out).mono ?_
  rintro x s1 ⟨rfl, hE⟩
  clear HE; have HE := Lib.hid hE; clear hE
  go_wp2_with fail
  refine (xS3 HE.out).mono ?_
  rintro x s2 ⟨rfl, hE⟩
  clear HE; have HE := Lib.hid hE; clear hE
  go_wp2_with fail
  refine (xT2 HE.out).mono ?_
  rintro x s3 ⟨B1, c1, rfl, hE⟩
  clear HE; have HE := Lib.hid hE; clear hE
  obtain ⟨R1, R2, R3, t1, t2, t3, d1, d2, d3⟩ := HE.out.ex
  have Ht1 := Lib.hid t1; have Ht2 := Lib.hid t2; have Ht3 := Lib.hid t3; have Hd1 := Lib.hid d1; have Hd2 := Lib.hid d2; have Hd3 := Lib.hid d3; clear t1 t2 t3 d1 d2 d3
  have HW := Lib.hid HE.out.bel
  go_wp2_with fail
  refine (tick_told [pOne] 1 xnum.2.2.2.2.2.2.2.2.2.2.2.2.1 rfl Ht2.out (by decide +kernel) (by unfold In64; omega)).mono ?_
  rintro x s4 ⟨B2, c2, rfl, hrow, ht2, hc2⟩
  have Ht1' := Lib.hid (Ht1.out.chg hc2 (fun q hq r => (Hd1.out q hq).2.1 r)); have Ht3' := Lib.hid (Ht3.out.chg hc2 (fun q hq r => (Hd2.out q r).2 hq))
  have HW' : Hid (Below W0.heap.size W0 s4) := Lib.hid ⟨hc2.os.trans HW.out.os, hc2.tape.trans HW.out.tape, hc2.output.trans HW.out.output, Nat.le_trans HW.out.size hc2.size, fun k hk => (hc2.block k (Nat.lt_of_lt_of_le hk HW.out.size) (fun r => by have := (Hd2.out k r).1; omega)).trans (HW.out.block k hk)⟩
  have HR := Lib.hid hrow; have hz34 := hc2.size; clear hrow ht2 hc2
  go_wp2_with fail
  refine (tick_told [] 0 xnum.2.2.2.2.2.2.2.2.2.2.2.2.2 rfl Ht3'.out (by decide +kernel) (by unfold In64; omega)).mono ?_
  rintro x s5 ⟨B3, c3, rfl, -, ht3, hc3⟩
  have HR' : Hid (PRow s5 s3.heap.size B2 c2 [pOne]) := Lib.hid (HR.out.kept (fun a ea => by subst ea; exact hc3.block _ HR.out.lt (fun r => by have h1 := Ht3.out.lt _ r; obtain ⟨g, eg, hg⟩ := HR.out.addr (by decide); cases eg; have h2 : s3.heap.size ≤ g := hg; have h3 : g < s3.heap.size := h1; omega)))
  have Ht1'' := Lib.hid (Ht1'.out.chg hc3 (fun q hq r => (Hd1.out q hq).2.2 r))
  have HW'' : Hid (Below W0.heap.size W0 s5) := Lib.hid ⟨hc3.os.trans HW'.out.os, hc3.tape.trans HW'.out.tape, hc3.output.trans HW'.out.output, Nat.le_trans HW'.out.size hc3.size, fun k hk => (hc3.block k (Nat.lt_of_lt_of_le hk HW'.out.size) (fun r => by have := Hd3.out k r; omega)).trans (HW'.out.block k hk)⟩
  clear ht3 hc3 HR HW HW' Ht1 Ht1' Ht2 Ht3 Ht3' HE
  have hb := HW''.out
  have qa0 := bcell hb ga0.out
  have qa1 := bcell hb ga1.out
  have qa2 := bcell hb ga2.out
  have qa3 := bcell hb ga3.out
  have qa4 := bcell hb ga4.out
  have qa5 := bcell hb ga5.out
  have qa6 := bcell hb ga6.out
  have qa7 := bcell hb ga7.out
  have qa8 := bcell hb ga8.out
  clear hb
  go_wp2_with fail
  refine putn.mono ?_
  rintro x s6 ⟨rfl, hb6⟩
  unfold PutRes PkV pk0; dsimp only
  clear qa0 qa1 qa2 qa3 qa4 qa5 qa6 qa7 qa8
  have HB6 := Lib.hid hb6; clear hb6
  go_wp2_with fail
  refine putb.mono ?_
  rintro x s7 ⟨rfl, hb7⟩
  unfold PutRes PkV pk0; dsimp only
  have HB8 : Hid (Below s5.heap.size s5 (s7.alloc (.cells #[.int .i64 0, .int .i64 0, .int .i64 0, .int .i64 0, .int .i64 0, .bool false, .bool false, .int .i64 0, .string ⟨#[]⟩] 30))) := Lib.hid (below_alloc (below_call (below_alloc HB6.out) hb7))
  clear hb7
  have HR8 := Lib.hid (HR'.out.kept (fun a ea => by subst ea; exact HB8.out.block _ HR'.out.lt))
  have HT8 := Lib.hid (Ht1''.out.below HB8.out)
  have HW8 := Lib.hid (below_call HW''.out HB8.out)
  go_upto_region 19 with fail
  generalize s7.alloc (.cells #[.int .i64 0, .int .i64 0, .int .i64 0, .int .i64 0, .int .i64 0, .bool false, .bool false, .int .i64 0, .string ⟨#[]⟩] 30) = s8 at *
  have ea1 : (⟨#[45]⟩ : ByteArray) ++ ⟨#[97, 98, 99, 100, 101, 102, 103, 104, 105, 106]⟩ = ⟨#[45, 97, 98, 99, 100, 101, 102, 103, 104, 105, 106]⟩ := by decide +kernel
  have ea2 : (⟨#[45, 97, 98, 99, 100, 101, 102, 103, 104, 105, 106]⟩ : ByteArray) ++ ⟨#[45]⟩ = ⟨#[45, 97, 98, 99, 100, 101, 102, 103, 104, 105, 106, 45]⟩ := by decide +kernel
  have ea3 : (⟨#[45]⟩ : ByteArray) ++ ⟨#[33]⟩ ++ ⟨#[33]⟩ = ⟨#[45, 33, 33]⟩ := by decide +kernel
  have hb := HW8.out
  have qa0 := bcell hb ga0.out
  have qa1 := bcell hb ga1.out
  have qa2 := bcell hb ga2.out
  have qa3 := bcell hb ga3.out
  have qa4 := bcell hb ga4.out
  have qa5 := bcell hb ga5.out
  have qa6 := bcell hb ga6.out
  have qa7 := bcell hb ga7.out
  have qa8 := bcell hb ga8.out
  clear hb
  go_wp2_with fail
  refine (xSame (HR8.out.kept (fun a ea => by subst ea; exact Below.heap_alloc _ _ _ HR8.out.lt)) (alloc_new _ _)).mono ?_
  rintro x s9 ⟨rfl, hb9⟩
  have HB9 := Lib.hid (below_call (below_alloc (o := .cells #[.int .i64 1, .int .i64 2, .int .i64 17, .int .i64 5, .int .i64 3, .bool false, .bool true, .int .i64 0, .string ⟨#[97, 98, 99, 100, 101, 102, 103, 104]⟩] 30) (Below.refl s8.heap.size s8)) hb9); clear hb9
  have HT9 := Lib.hid (HT8.out.below HB9.out); have HW9 := Lib.hid (below_call HW8.out HB9.out)
  have HR1 : Hid (∀ q, R1 q → W0.heap.size ≤ q) := Lib.hid fun q hq => (Hd1.out q hq).1
  clear qa0 qa1 qa2 qa3 qa4 qa5 qa6 qa7 qa8 HB9 HR8 HT8 HW8 HB8
  go_wp2_with fail
  refine (xG HT9.out).mono ?_
  rintro x s10 ⟨rfl, hc10⟩
  have HC10 := Lib.hid hc10; clear hc10
  go_wp2_with fail
  go_ret
  refine ⟨rfl, ?_⟩
  have hz := HB.out.size
  exact below_call HB.out (HW9.out.trans (HC10.out.below (B := W0.heap.size) HW9.out.size (fun k hk => HR1.out k hk)))
end Go.Proofs.Ytmeldgnjgogacaa.Re
