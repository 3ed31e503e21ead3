/-
  The reference of chapter 7: a fragment with MF fits a new half.
-/
import Derived.Test.YtmeldgnjgogacaaReR2
import Derived.Deep.QuietTactic
import Derived.BigQuiet
namespace Go.Proofs.Ytmeldgnjgogacaa.Re
set_option maxRecDepth 100000
open Go.RowKit Go.Proofs.Ytmeldgnjgogacaa.Wire
open Go.Proofs.Ytmeldgnjgogacaa.Ip (Pk vlenB VLen)

set_option maxHeartbeats 4000000 in
theorem rfits_new (lo : Nat) (p : Pk) (now : Int) (hb gb gt : Nat) (F : Pk) (has : Bool) (by_ : List UInt8) (w : World) (h : RH lo p now hb gb gt F has by_ (List.replicate 4000 false) w) (q : Pk) (h0 : 0 ≤ q.off) (hm : q.off + q.s.size ≤ 4000) :
    Calls Try.prog 42 #[.pointer (some ⟨hb, 0, none⟩), .agg #[.int .i64 q.f, .int .i64 q.t, .int .i64 q.pr, .int .i64 q.ttl, .int .i64 q.id, .bool q.df, .bool true, .int .i64 q.off, .string q.s]] w fun x w' => x = .returned (.bool true) ∧ Below w.heap.size w w' := by
  have HQ := Lib.hid (alloc_new w (.cells #[.int .i64 q.f, .int .i64 q.t, .int .i64 q.pr, .int .i64 q.ttl, .int .i64 q.id, .bool q.df, .bool true, .int .i64 q.off, .string q.s] 30))
  have HH := Lib.hid (block_alloc h.h (.cells #[.int .i64 q.f, .int .i64 q.t, .int .i64 q.pr, .int .i64 q.ttl, .int .i64 q.id, .bool q.df, .bool true, .int .i64 q.off, .string q.s] 30))
  have HM := Lib.hid (block_alloc h.t (.cells #[.int .i64 q.f, .int .i64 q.t, .int .i64 q.pr, .int .i64 q.ttl, .int .i64 q.id, .bool q.df, .bool true, .int .i64 q.off, .string q.s] 30))
  have HB := Lib.hid (below_alloc (o := .cells #[.int .i64 q.f, .int .i64 q.t, .int .i64 q.pr, .int .i64 q.ttl, .int .i64 q.id, .bool q.df, .bool true, .int .i64 q.off, .string q.s] 30) (Below.refl w.heap.size w))
  clear h
  go_enter Try.func42, Try.ntmps42
  go_upto_region 1 with fail
  generalize w.alloc (.cells #[.int .i64 q.f, .int .i64 q.t, .int .i64 q.pr, .int .i64 q.ttl, .int .i64 q.id, .bool q.df, .bool true, .int .i64 q.off, .string q.s] 30) = w1 at *
  have e6 := (cell_of_block (k := 6) HQ.out rfl).1; have e7 := (cell_of_block (k := 7) HQ.out rfl).1; have e8 := (cell_of_block (k := 8) HQ.out rfl).1
  have g12 := (cell_of_block (k := 12) HH.out rfl).1; have g11 := (cell_of_block (k := 11) HH.out rfl).1
  go_wp2_with fail
  go_loopw [6] (fun i wr => ∃ k : Nat, k ≤ q.s.size ∧ i = .int .i64 (k : Int) ∧ Below w1.heap.size w1 wr) (fun i _ => q.s.size - (Go.RowKit.intOf i).toNat)
  case atStart => exact ⟨0, by omega, rfl, Below.refl _ _⟩
  case round =>
    obtain ⟨k, hk, rfl, hb1⟩ := hrel
    have HB1 := Lib.hid hb1
    have HQ1 := Lib.hid (bblock hb1 HQ.out); have HH1 := Lib.hid (bblock hb1 HH.out); have HM1 := Lib.hid (bblock hb1 HM.out)
    clear e6 e7 e8 g12 g11 hb1
    have e6 := (cell_of_block (k := 6) HQ1.out rfl).1; have e7 := (cell_of_block (k := 7) HQ1.out rfl).1; have e8 := (cell_of_block (k := 8) HQ1.out rfl).1
    have g12 := (cell_of_block (k := 12) HH1.out rfl).1; have g11 := (cell_of_block (k := 11) HH1.out rfl).1
    by_cases hlt : k < q.s.size
    · have d1 : decide ((k : Int) < (q.s.size : Int)) = true := decide_eq_true (by omega)
      obtain ⟨o, ho⟩ := Int.eq_ofNat_of_zero_le h0
      have m1 : wr.cell? ⟨gt, o + k, none⟩ = some (.bool false) := (cell_of_block (k := o + k) (v := .bool false) HM1.out (by rw [List.map_replicate, List.getElem?_toArray, List.getElem?_replicate, if_pos (by omega)])).1
      have i1 : q.off + (k : Int) < 4000 := by omega
      have i2 : 0 ≤ q.off + (k : Int) := by omega
      have i3 : (q.off + (k : Int)).toNat = o + k := by omega
      go_upto_region 7 with fail
      go_quiet (fail)
      go_wp2_with fail
      exact ⟨⟨k + 1, by omega, by go_num, below_drewN HB1.out _⟩, by simp [Go.RowKit.intOf]; omega⟩
    · have d1 : decide ((k : Int) < (q.s.size : Int)) = false := decide_eq_false (by omega)
      go_wp2_with fail
      go_ret
      exact ⟨rfl, below_call HB.out HB1.out⟩
end Go.Proofs.Ytmeldgnjgogacaa.Re
