/-
  The walk of sane (chapter 6).
-/
import Derived.Test.YtpiohahfdekmhaaDoorLaw06a
import Derived.Test.YtpiohahfdekmhaaDoorFrag3
import Derived.Test.YtpiohahfdekmhaaDoorLex
import Derived.BigQuiet
import Derived.Deep.QuietTactic
import Derived.Deep.DeepCutAuto
namespace Go.Proofs.YtpiohahfdekmhaaDoor.Ip
set_option maxRecDepth 100000
open Go.RowKit Go.Proofs.YtpiohahfdekmhaaDoor.Wire Go.Proofs.YtpiohahfdekmhaaDoor.Gen

theorem below_drewN {B : Nat} {a w : World} (h : Below B a w) (n : Nat) : Below B a (w.drewN n) := ⟨h.os, h.tape, h.output, h.size, h.block⟩
set_option maxRecDepth 100000 in
set_option maxHeartbeats 4000000 in
theorem sane_walk (ps E : ByteArray) (w : World) (hps : 100 ≤ ps.size) (hps' : ps.size ≤ 100) (hE : 120 ≤ E.size) (hE' : E.size ≤ 120) (hEb : ((E.size : Int) != 120) = false)
    (HPay : Hid (∀ w, Calls Tryd.prog 12 #[.string ⟨#[97]⟩, .int .i64 100] w fun e w' => e = .returned (.string ps) ∧ Below w.heap.size w w'))
    (HF : Hid (∀ w, Calls Tryd.prog 13 #[.agg #[.int .i64 1, .int .i64 2, .int .i64 17, .int .i64 3, .int .i64 5, .bool false, .bool false, .int .i64 0, .string ps], .int .i64 68] w fun e w' => (∃ (g cap : Nat) (x2 : ByteArray), e = .returned (.tuple #[.slice (some ⟨g, 0, none⟩) 3 cap, .int .i64 0]) ∧ ((x2.size : Int) == 4) = true ∧ w'.cell? ⟨g, 6, none⟩ = some (.bool true) ∧ w'.cell? ⟨g, 7, none⟩ = some (.int .i64 0) ∧ w'.cell? ⟨g, 15, none⟩ = some (.bool true) ∧ w'.cell? ⟨g, 16, none⟩ = some (.int .i64 48) ∧ w'.cell? ⟨g, 24, none⟩ = some (.bool false) ∧ w'.cell? ⟨g, 25, none⟩ = some (.int .i64 96) ∧ w'.cell? ⟨g, 26, none⟩ = some (.string x2)) ∧ Below w.heap.size w w'))
    (HE : Hid (∀ w, Calls Tryd.prog 6 #[.agg #[.int .i64 1, .int .i64 2, .int .i64 17, .int .i64 3, .int .i64 5, .bool false, .bool false, .int .i64 0, .string ps]] w fun e w' => e = .returned (.tuple #[.string E, .int .i64 0]) ∧ Below w.heap.size w w'))
    (HD : Hid (∀ w, Calls Tryd.prog 10 #[.string E] w fun e w' => e = .returned (.tuple #[.agg #[.int .i64 1, .int .i64 2, .int .i64 17, .int .i64 3, .int .i64 5, .bool false, .bool false, .int .i64 0, .string ps], .int .i64 0]) ∧ Below w.heap.size w w'))
    (HF2 : Hid (∀ w, Calls Tryd.prog 13 #[.agg #[.int .i64 1, .int .i64 2, .int .i64 17, .int .i64 3, .int .i64 5, .bool false, .bool false, .int .i64 0, .string ps], .int .i64 67] w fun e w' => (∃ v, e = .returned (.tuple #[v, .int .i64 2])) ∧ Below w.heap.size w w'))
    (HF3 : Hid (∀ w, Calls Tryd.prog 13 #[.agg #[.int .i64 1, .int .i64 2, .int .i64 17, .int .i64 3, .int .i64 5, .bool true, .bool false, .int .i64 0, .string ps], .int .i64 119] w fun e w' => (∃ v, e = .returned (.tuple #[v, .int .i64 61])) ∧ Below w.heap.size w w'))
    (HF4 : Hid (∀ w, Calls Tryd.prog 13 #[.agg #[.int .i64 1, .int .i64 2, .int .i64 17, .int .i64 3, .int .i64 5, .bool true, .bool false, .int .i64 0, .string ps], .int .i64 120] w fun e w' => (∃ (g cap : Nat), e = .returned (.tuple #[.slice (some ⟨g, 0, none⟩) 1 cap, .int .i64 0])) ∧ Below w.heap.size w w'))
    (HD2 : Hid (∀ w, Calls Tryd.prog 10 #[.string ⟨#[]⟩] w fun e w' => e = .returned (.tuple #[.agg #[.int .i64 0, .int .i64 0, .int .i64 0, .int .i64 0, .int .i64 0, .bool false, .bool false, .int .i64 0, .string ⟨#[]⟩], .int .i64 60]) ∧ Below w.heap.size w w'))
    (HC : Hid (∀ w, Calls Tryd.prog 14 #[.string (E.extract 0 28)] w fun e w' => e = .returned (.tuple #[.agg #[.int .i64 1, .int .i64 2, .int .i64 17, .int .i64 3, .int .i64 5, .bool false, .bool false, .int .i64 0, .string (ps.extract 0 8)], .int .i64 0]) ∧ Below w.heap.size w w'))
    (h14 : Hid ((E.extract 0 14).toList = [4, 0, 0, 0, 1, 0, 0, 0, 2, 17, 3, 0, 5, 0])) :
    Calls Tryd.prog 4 #[] w fun e w' => e = .returned (.bool true) ∧ Below w.heap.size w w' := by
  go_enter Tryd.func4, Tryd.ntmps4
  have HB := Below.refl w.heap.size w
  go_wp2_with fail
  refine (HPay.out _).mono ?_
  rintro e w1 ⟨rfl, hb⟩
  have HB' := below_call HB hb; clear HB hb; have HB := HB'; clear HB'; have hz1 := HB.size
  have Hp := Lib.hid (alloc_new' w1 (.cells #[.int .i64 1, .int .i64 2, .int .i64 17, .int .i64 3, .int .i64 5, .bool false, .bool false, .int .i64 0, .string ps] 26) (w1.heap.size) (by simp))
  have HB' := below_alloc (o := .cells #[.int .i64 1, .int .i64 2, .int .i64 17, .int .i64 3, .int .i64 5, .bool false, .bool false, .int .i64 0, .string ps] 26) HB; clear HB; have HB := HB'; clear HB'
  go_wp2_with fail
  refine (HF.out _).mono ?_
  rintro e w2 ⟨⟨g, cap, x2, rfl, hx2, c06, c07, c16, c17, c26, c27, c28⟩, hb⟩
  have Hp' := Lib.hid (bblock hb Hp.out); clear Hp; have Hp := Hp'; clear Hp'
  have HB' := below_call HB hb; clear HB hb; have HB := HB'; clear HB'; have hz2 := HB.size
  have lt_p_2 := blk_lt Hp.out
  have c06 := Lib.hid c06
  have c07 := Lib.hid c07
  have c16 := Lib.hid c16
  have c17 := Lib.hid c17
  have c26 := Lib.hid c26
  have c27 := Lib.hid c27
  have c28 := Lib.hid c28
  have Sp := cells9 Hp.out
  obtain ⟨⟨qp0, qp1, qp2, qp3, qp4, qp5, qp6, qp7, qp8⟩, zp0, zp1, zp2, zp3, zp4, zp5, zp6, zp7, zp8⟩ := Sp
  have lt_p := blk_lt Hp.out
  go_wp2_with fail
  refine (HE.out _).mono ?_
  rintro e w3 ⟨rfl, hb⟩
  clear qp0 zp0 qp1 zp1 qp2 zp2 qp3 zp3 qp4 zp4 qp5 zp5 qp6 zp6 qp7 zp7 qp8 zp8
  have Hp' := Lib.hid (bblock hb Hp.out); clear Hp; have Hp := Hp'; clear Hp'
  have c06' := Lib.hid (bcell hb c06.out); clear c06; have c06 := c06'; clear c06'
  have c07' := Lib.hid (bcell hb c07.out); clear c07; have c07 := c07'; clear c07'
  have c16' := Lib.hid (bcell hb c16.out); clear c16; have c16 := c16'; clear c16'
  have c17' := Lib.hid (bcell hb c17.out); clear c17; have c17 := c17'; clear c17'
  have c26' := Lib.hid (bcell hb c26.out); clear c26; have c26 := c26'; clear c26'
  have c27' := Lib.hid (bcell hb c27.out); clear c27; have c27 := c27'; clear c27'
  have c28' := Lib.hid (bcell hb c28.out); clear c28; have c28 := c28'; clear c28'
  have HB' := below_call HB hb; clear HB hb; have HB := HB'; clear HB'; have hz3 := HB.size
  have lt_p_3 := blk_lt Hp.out
  have Sp := cells9 Hp.out
  obtain ⟨⟨qp0, qp1, qp2, qp3, qp4, qp5, qp6, qp7, qp8⟩, zp0, zp1, zp2, zp3, zp4, zp5, zp6, zp7, zp8⟩ := Sp
  have lt_p := blk_lt Hp.out
  go_wp2_with fail
  refine (HD.out _).mono ?_
  rintro e w4 ⟨rfl, hb⟩
  clear qp0 zp0 qp1 zp1 qp2 zp2 qp3 zp3 qp4 zp4 qp5 zp5 qp6 zp6 qp7 zp7 qp8 zp8
  have Hp' := Lib.hid (bblock hb Hp.out); clear Hp; have Hp := Hp'; clear Hp'
  have c06' := Lib.hid (bcell hb c06.out); clear c06; have c06 := c06'; clear c06'
  have c07' := Lib.hid (bcell hb c07.out); clear c07; have c07 := c07'; clear c07'
  have c16' := Lib.hid (bcell hb c16.out); clear c16; have c16 := c16'; clear c16'
  have c17' := Lib.hid (bcell hb c17.out); clear c17; have c17 := c17'; clear c17'
  have c26' := Lib.hid (bcell hb c26.out); clear c26; have c26 := c26'; clear c26'
  have c27' := Lib.hid (bcell hb c27.out); clear c27; have c27 := c27'; clear c27'
  have c28' := Lib.hid (bcell hb c28.out); clear c28; have c28 := c28'; clear c28'
  have HB' := below_call HB hb; clear HB hb; have HB := HB'; clear HB'; have hz4 := HB.size
  have lt_p_4 := blk_lt Hp.out
  have Hq := Lib.hid (alloc_new' w4 (.cells #[.int .i64 1, .int .i64 2, .int .i64 17, .int .i64 3, .int .i64 5, .bool false, .bool false, .int .i64 0, .string ps] 26) (w4.heap.size) (by simp))
  have Hp' := Lib.hid (block_alloc Hp.out (.cells #[.int .i64 1, .int .i64 2, .int .i64 17, .int .i64 3, .int .i64 5, .bool false, .bool false, .int .i64 0, .string ps] 26)); clear Hp; have Hp := Hp'; clear Hp'
  have c06' := Lib.hid (cell_alloc' (.cells #[.int .i64 1, .int .i64 2, .int .i64 17, .int .i64 3, .int .i64 5, .bool false, .bool false, .int .i64 0, .string ps] 26) c06.out); clear c06; have c06 := c06'; clear c06'
  have c07' := Lib.hid (cell_alloc' (.cells #[.int .i64 1, .int .i64 2, .int .i64 17, .int .i64 3, .int .i64 5, .bool false, .bool false, .int .i64 0, .string ps] 26) c07.out); clear c07; have c07 := c07'; clear c07'
  have c16' := Lib.hid (cell_alloc' (.cells #[.int .i64 1, .int .i64 2, .int .i64 17, .int .i64 3, .int .i64 5, .bool false, .bool false, .int .i64 0, .string ps] 26) c16.out); clear c16; have c16 := c16'; clear c16'
  have c17' := Lib.hid (cell_alloc' (.cells #[.int .i64 1, .int .i64 2, .int .i64 17, .int .i64 3, .int .i64 5, .bool false, .bool false, .int .i64 0, .string ps] 26) c17.out); clear c17; have c17 := c17'; clear c17'
  have c26' := Lib.hid (cell_alloc' (.cells #[.int .i64 1, .int .i64 2, .int .i64 17, .int .i64 3, .int .i64 5, .bool false, .bool false, .int .i64 0, .string ps] 26) c26.out); clear c26; have c26 := c26'; clear c26'
  have c27' := Lib.hid (cell_alloc' (.cells #[.int .i64 1, .int .i64 2, .int .i64 17, .int .i64 3, .int .i64 5, .bool false, .bool false, .int .i64 0, .string ps] 26) c27.out); clear c27; have c27 := c27'; clear c27'
  have c28' := Lib.hid (cell_alloc' (.cells #[.int .i64 1, .int .i64 2, .int .i64 17, .int .i64 3, .int .i64 5, .bool false, .bool false, .int .i64 0, .string ps] 26) c28.out); clear c28; have c28 := c28'; clear c28'
  have HB' := below_alloc (o := .cells #[.int .i64 1, .int .i64 2, .int .i64 17, .int .i64 3, .int .i64 5, .bool false, .bool false, .int .i64 0, .string ps] 26) HB; clear HB; have HB := HB'; clear HB'
  have Sp := cells9 Hp.out
  obtain ⟨⟨qp0, qp1, qp2, qp3, qp4, qp5, qp6, qp7, qp8⟩, zp0, zp1, zp2, zp3, zp4, zp5, zp6, zp7, zp8⟩ := Sp
  have lt_p := blk_lt Hp.out
  go_wp2_with fail
  refine (HF2.out _).mono ?_
  rintro e w5 ⟨⟨v2, rfl⟩, hb⟩
  clear qp0 zp0 qp1 zp1 qp2 zp2 qp3 zp3 qp4 zp4 qp5 zp5 qp6 zp6 qp7 zp7 qp8 zp8
  have Hp' := Lib.hid (bblock hb Hp.out); clear Hp; have Hp := Hp'; clear Hp'
  have Hq' := Lib.hid (bblock hb Hq.out); clear Hq; have Hq := Hq'; clear Hq'
  have c06' := Lib.hid (bcell hb c06.out); clear c06; have c06 := c06'; clear c06'
  have c07' := Lib.hid (bcell hb c07.out); clear c07; have c07 := c07'; clear c07'
  have c16' := Lib.hid (bcell hb c16.out); clear c16; have c16 := c16'; clear c16'
  have c17' := Lib.hid (bcell hb c17.out); clear c17; have c17 := c17'; clear c17'
  have c26' := Lib.hid (bcell hb c26.out); clear c26; have c26 := c26'; clear c26'
  have c27' := Lib.hid (bcell hb c27.out); clear c27; have c27 := c27'; clear c27'
  have c28' := Lib.hid (bcell hb c28.out); clear c28; have c28 := c28'; clear c28'
  have HB' := below_call HB hb; clear HB hb; have HB := HB'; clear HB'; have hz5 := HB.size
  have lt_p_5 := blk_lt Hp.out
  have lt_q_5 := blk_lt Hq.out
  have Sp := cells9 Hp.out
  obtain ⟨⟨qp0, qp1, qp2, qp3, qp4, qp5, qp6, qp7, qp8⟩, zp0, zp1, zp2, zp3, zp4, zp5, zp6, zp7, zp8⟩ := Sp
  have lt_p := blk_lt Hp.out
  go_wp2_with fail
  have Hf := Lib.hid (alloc_new' w5 (.cells #[.int .i64 1, .int .i64 2, .int .i64 17, .int .i64 3, .int .i64 5, .bool true, .bool false, .int .i64 0, .string ps] 26) (w5.heap.size) (by simp))
  have Hp' := Lib.hid (block_alloc Hp.out (.cells #[.int .i64 1, .int .i64 2, .int .i64 17, .int .i64 3, .int .i64 5, .bool true, .bool false, .int .i64 0, .string ps] 26)); clear Hp; have Hp := Hp'; clear Hp'
  have Hq' := Lib.hid (block_alloc Hq.out (.cells #[.int .i64 1, .int .i64 2, .int .i64 17, .int .i64 3, .int .i64 5, .bool true, .bool false, .int .i64 0, .string ps] 26)); clear Hq; have Hq := Hq'; clear Hq'
  have c06' := Lib.hid (cell_alloc' (.cells #[.int .i64 1, .int .i64 2, .int .i64 17, .int .i64 3, .int .i64 5, .bool true, .bool false, .int .i64 0, .string ps] 26) c06.out); clear c06; have c06 := c06'; clear c06'
  have c07' := Lib.hid (cell_alloc' (.cells #[.int .i64 1, .int .i64 2, .int .i64 17, .int .i64 3, .int .i64 5, .bool true, .bool false, .int .i64 0, .string ps] 26) c07.out); clear c07; have c07 := c07'; clear c07'
  have c16' := Lib.hid (cell_alloc' (.cells #[.int .i64 1, .int .i64 2, .int .i64 17, .int .i64 3, .int .i64 5, .bool true, .bool false, .int .i64 0, .string ps] 26) c16.out); clear c16; have c16 := c16'; clear c16'
  have c17' := Lib.hid (cell_alloc' (.cells #[.int .i64 1, .int .i64 2, .int .i64 17, .int .i64 3, .int .i64 5, .bool true, .bool false, .int .i64 0, .string ps] 26) c17.out); clear c17; have c17 := c17'; clear c17'
  have c26' := Lib.hid (cell_alloc' (.cells #[.int .i64 1, .int .i64 2, .int .i64 17, .int .i64 3, .int .i64 5, .bool true, .bool false, .int .i64 0, .string ps] 26) c26.out); clear c26; have c26 := c26'; clear c26'
  have c27' := Lib.hid (cell_alloc' (.cells #[.int .i64 1, .int .i64 2, .int .i64 17, .int .i64 3, .int .i64 5, .bool true, .bool false, .int .i64 0, .string ps] 26) c27.out); clear c27; have c27 := c27'; clear c27'
  have c28' := Lib.hid (cell_alloc' (.cells #[.int .i64 1, .int .i64 2, .int .i64 17, .int .i64 3, .int .i64 5, .bool true, .bool false, .int .i64 0, .string ps] 26) c28.out); clear c28; have c28 := c28'; clear c28'
  have HB' := below_alloc (o := .cells #[.int .i64 1, .int .i64 2, .int .i64 17, .int .i64 3, .int .i64 5, .bool true, .bool false, .int .i64 0, .string ps] 26) HB; clear HB; have HB := HB'; clear HB'
  clear qp0 zp0 qp1 zp1 qp2 zp2 qp3 zp3 qp4 zp4 qp5 zp5 qp6 zp6 qp7 zp7 qp8 zp8
  refine (HF3.out _).mono ?_
  rintro e w6 ⟨⟨v3, rfl⟩, hb⟩
  have Hp' := Lib.hid (bblock hb Hp.out); clear Hp; have Hp := Hp'; clear Hp'
  have Hq' := Lib.hid (bblock hb Hq.out); clear Hq; have Hq := Hq'; clear Hq'
  have Hf' := Lib.hid (bblock hb Hf.out); clear Hf; have Hf := Hf'; clear Hf'
  have c06' := Lib.hid (bcell hb c06.out); clear c06; have c06 := c06'; clear c06'
  have c07' := Lib.hid (bcell hb c07.out); clear c07; have c07 := c07'; clear c07'
  have c16' := Lib.hid (bcell hb c16.out); clear c16; have c16 := c16'; clear c16'
  have c17' := Lib.hid (bcell hb c17.out); clear c17; have c17 := c17'; clear c17'
  have c26' := Lib.hid (bcell hb c26.out); clear c26; have c26 := c26'; clear c26'
  have c27' := Lib.hid (bcell hb c27.out); clear c27; have c27 := c27'; clear c27'
  have c28' := Lib.hid (bcell hb c28.out); clear c28; have c28 := c28'; clear c28'
  have HB' := below_call HB hb; clear HB hb; have HB := HB'; clear HB'; have hz6 := HB.size
  have lt_p_6 := blk_lt Hp.out
  have lt_q_6 := blk_lt Hq.out
  have lt_f_6 := blk_lt Hf.out
  have Sf := cells9 Hf.out
  obtain ⟨⟨qf0, qf1, qf2, qf3, qf4, qf5, qf6, qf7, qf8⟩, zf0, zf1, zf2, zf3, zf4, zf5, zf6, zf7, zf8⟩ := Sf
  have lt_f := blk_lt Hf.out
  go_wp2_with fail
  refine (HF4.out _).mono ?_
  rintro e w7 ⟨⟨g4, cap4, rfl⟩, hb⟩
  clear qf0 zf0 qf1 zf1 qf2 zf2 qf3 zf3 qf4 zf4 qf5 zf5 qf6 zf6 qf7 zf7 qf8 zf8
  have Hp' := Lib.hid (bblock hb Hp.out); clear Hp; have Hp := Hp'; clear Hp'
  have Hq' := Lib.hid (bblock hb Hq.out); clear Hq; have Hq := Hq'; clear Hq'
  have Hf' := Lib.hid (bblock hb Hf.out); clear Hf; have Hf := Hf'; clear Hf'
  have c06' := Lib.hid (bcell hb c06.out); clear c06; have c06 := c06'; clear c06'
  have c07' := Lib.hid (bcell hb c07.out); clear c07; have c07 := c07'; clear c07'
  have c16' := Lib.hid (bcell hb c16.out); clear c16; have c16 := c16'; clear c16'
  have c17' := Lib.hid (bcell hb c17.out); clear c17; have c17 := c17'; clear c17'
  have c26' := Lib.hid (bcell hb c26.out); clear c26; have c26 := c26'; clear c26'
  have c27' := Lib.hid (bcell hb c27.out); clear c27; have c27 := c27'; clear c27'
  have c28' := Lib.hid (bcell hb c28.out); clear c28; have c28 := c28'; clear c28'
  have HB' := below_call HB hb; clear HB hb; have HB := HB'; clear HB'; have hz7 := HB.size
  have lt_p_7 := blk_lt Hp.out
  have lt_q_7 := blk_lt Hq.out
  have lt_f_7 := blk_lt Hf.out
  go_wp2_with fail
  refine (HD2.out _).mono ?_
  rintro e w8 ⟨rfl, hb⟩
  have Hp' := Lib.hid (bblock hb Hp.out); clear Hp; have Hp := Hp'; clear Hp'
  have Hq' := Lib.hid (bblock hb Hq.out); clear Hq; have Hq := Hq'; clear Hq'
  have Hf' := Lib.hid (bblock hb Hf.out); clear Hf; have Hf := Hf'; clear Hf'
  have c06' := Lib.hid (bcell hb c06.out); clear c06; have c06 := c06'; clear c06'
  have c07' := Lib.hid (bcell hb c07.out); clear c07; have c07 := c07'; clear c07'
  have c16' := Lib.hid (bcell hb c16.out); clear c16; have c16 := c16'; clear c16'
  have c17' := Lib.hid (bcell hb c17.out); clear c17; have c17 := c17'; clear c17'
  have c26' := Lib.hid (bcell hb c26.out); clear c26; have c26 := c26'; clear c26'
  have c27' := Lib.hid (bcell hb c27.out); clear c27; have c27 := c27'; clear c27'
  have c28' := Lib.hid (bcell hb c28.out); clear c28; have c28 := c28'; clear c28'
  have HB' := below_call HB hb; clear HB hb; have HB := HB'; clear HB'; have hz8 := HB.size
  have lt_p_8 := blk_lt Hp.out
  have lt_q_8 := blk_lt Hq.out
  have lt_f_8 := blk_lt Hf.out
  go_upto_region 13 with fail
  have Hz := Lib.hid (alloc_new' w8 (.cells #[.int .i64 0, .int .i64 0, .int .i64 0, .int .i64 0, .int .i64 0, .bool false, .bool false, .int .i64 0, .string ⟨#[]⟩] 26) (w8.heap.size) (by simp))
  have Hp' := Lib.hid (block_alloc Hp.out (.cells #[.int .i64 0, .int .i64 0, .int .i64 0, .int .i64 0, .int .i64 0, .bool false, .bool false, .int .i64 0, .string ⟨#[]⟩] 26)); clear Hp; have Hp := Hp'; clear Hp'
  have Hq' := Lib.hid (block_alloc Hq.out (.cells #[.int .i64 0, .int .i64 0, .int .i64 0, .int .i64 0, .int .i64 0, .bool false, .bool false, .int .i64 0, .string ⟨#[]⟩] 26)); clear Hq; have Hq := Hq'; clear Hq'
  have Hf' := Lib.hid (block_alloc Hf.out (.cells #[.int .i64 0, .int .i64 0, .int .i64 0, .int .i64 0, .int .i64 0, .bool false, .bool false, .int .i64 0, .string ⟨#[]⟩] 26)); clear Hf; have Hf := Hf'; clear Hf'
  have c06' := Lib.hid (cell_alloc' (.cells #[.int .i64 0, .int .i64 0, .int .i64 0, .int .i64 0, .int .i64 0, .bool false, .bool false, .int .i64 0, .string ⟨#[]⟩] 26) c06.out); clear c06; have c06 := c06'; clear c06'
  have c07' := Lib.hid (cell_alloc' (.cells #[.int .i64 0, .int .i64 0, .int .i64 0, .int .i64 0, .int .i64 0, .bool false, .bool false, .int .i64 0, .string ⟨#[]⟩] 26) c07.out); clear c07; have c07 := c07'; clear c07'
  have c16' := Lib.hid (cell_alloc' (.cells #[.int .i64 0, .int .i64 0, .int .i64 0, .int .i64 0, .int .i64 0, .bool false, .bool false, .int .i64 0, .string ⟨#[]⟩] 26) c16.out); clear c16; have c16 := c16'; clear c16'
  have c17' := Lib.hid (cell_alloc' (.cells #[.int .i64 0, .int .i64 0, .int .i64 0, .int .i64 0, .int .i64 0, .bool false, .bool false, .int .i64 0, .string ⟨#[]⟩] 26) c17.out); clear c17; have c17 := c17'; clear c17'
  have c26' := Lib.hid (cell_alloc' (.cells #[.int .i64 0, .int .i64 0, .int .i64 0, .int .i64 0, .int .i64 0, .bool false, .bool false, .int .i64 0, .string ⟨#[]⟩] 26) c26.out); clear c26; have c26 := c26'; clear c26'
  have c27' := Lib.hid (cell_alloc' (.cells #[.int .i64 0, .int .i64 0, .int .i64 0, .int .i64 0, .int .i64 0, .bool false, .bool false, .int .i64 0, .string ⟨#[]⟩] 26) c27.out); clear c27; have c27 := c27'; clear c27'
  have c28' := Lib.hid (cell_alloc' (.cells #[.int .i64 0, .int .i64 0, .int .i64 0, .int .i64 0, .int .i64 0, .bool false, .bool false, .int .i64 0, .string ⟨#[]⟩] 26) c28.out); clear c28; have c28 := c28'; clear c28'
  have HB' := below_alloc (o := .cells #[.int .i64 0, .int .i64 0, .int .i64 0, .int .i64 0, .int .i64 0, .bool false, .bool false, .int .i64 0, .string ⟨#[]⟩] 26) HB; clear HB; have HB := HB'; clear HB'
  go_cut [1, 2, 3, 4, 5, 6, 7, 9, 12, 14, 16, 17, 18] (fun s1 s2 s3 s4 s5 s6 s7 s9 s12 s14 s16 s17 s18 wx => ∃ gc : Nat, s1 = .pointer (some ⟨w1.heap.size, 0, none⟩) ∧ s2 = .slice (some ⟨g, 0, none⟩) 3 cap ∧ s3 = .int .i64 0 ∧ s4 = .string E ∧ s5 = .int .i64 0 ∧ s6 = .pointer (some ⟨w4.heap.size, 0, none⟩) ∧ s7 = .int .i64 0 ∧ s9 = .int .i64 2 ∧ s12 = .int .i64 61 ∧ s14 = .int .i64 0 ∧ s16 = .int .i64 60 ∧ s17 = .pointer (some ⟨gc, 0, none⟩) ∧ s18 = .int .i64 0 ∧ wx.cell? ⟨g, 6, none⟩ = some (.bool true) ∧ wx.cell? ⟨g, 7, none⟩ = some (.int .i64 0) ∧ wx.cell? ⟨g, 15, none⟩ = some (.bool true) ∧ wx.cell? ⟨g, 16, none⟩ = some (.int .i64 48) ∧ wx.cell? ⟨g, 24, none⟩ = some (.bool false) ∧ wx.cell? ⟨g, 25, none⟩ = some (.int .i64 96) ∧ wx.cell? ⟨g, 26, none⟩ = some (.string x2) ∧ wx.heap[w1.heap.size]? = some (.cells #[.int .i64 1, .int .i64 2, .int .i64 17, .int .i64 3, .int .i64 5, .bool false, .bool false, .int .i64 0, .string ps] 26) ∧ wx.heap[w4.heap.size]? = some (.cells #[.int .i64 1, .int .i64 2, .int .i64 17, .int .i64 3, .int .i64 5, .bool false, .bool false, .int .i64 0, .string ps] 26) ∧ wx.heap[gc]? = some (.cells #[.int .i64 1, .int .i64 2, .int .i64 17, .int .i64 3, .int .i64 5, .bool false, .bool false, .int .i64 0, .string (ps.extract 0 8)] 26) ∧ Below w.heap.size w wx)
  case first =>
    go_wp2_with fail
    refine (HC.out _).mono ?_
    rintro e w9 ⟨rfl, hb⟩
    have Hp' := Lib.hid (bblock hb Hp.out); clear Hp; have Hp := Hp'; clear Hp'
    have Hq' := Lib.hid (bblock hb Hq.out); clear Hq; have Hq := Hq'; clear Hq'
    have Hf' := Lib.hid (bblock hb Hf.out); clear Hf; have Hf := Hf'; clear Hf'
    have Hz' := Lib.hid (bblock hb Hz.out); clear Hz; have Hz := Hz'; clear Hz'
    have c06' := Lib.hid (bcell hb c06.out); clear c06; have c06 := c06'; clear c06'
    have c07' := Lib.hid (bcell hb c07.out); clear c07; have c07 := c07'; clear c07'
    have c16' := Lib.hid (bcell hb c16.out); clear c16; have c16 := c16'; clear c16'
    have c17' := Lib.hid (bcell hb c17.out); clear c17; have c17 := c17'; clear c17'
    have c26' := Lib.hid (bcell hb c26.out); clear c26; have c26 := c26'; clear c26'
    have c27' := Lib.hid (bcell hb c27.out); clear c27; have c27 := c27'; clear c27'
    have c28' := Lib.hid (bcell hb c28.out); clear c28; have c28 := c28'; clear c28'
    have HB' := below_call HB hb; clear HB hb; have HB := HB'; clear HB'; have hz9 := HB.size
    have lt_p_9 := blk_lt Hp.out
    have lt_q_9 := blk_lt Hq.out
    have lt_f_9 := blk_lt Hf.out
    have lt_z_9 := blk_lt Hz.out
    have Hc := Lib.hid (alloc_new' w9 (.cells #[.int .i64 1, .int .i64 2, .int .i64 17, .int .i64 3, .int .i64 5, .bool false, .bool false, .int .i64 0, .string (ps.extract 0 8)] 26) (w9.heap.size) (by simp))
    have Hp' := Lib.hid (block_alloc Hp.out (.cells #[.int .i64 1, .int .i64 2, .int .i64 17, .int .i64 3, .int .i64 5, .bool false, .bool false, .int .i64 0, .string (ps.extract 0 8)] 26)); clear Hp; have Hp := Hp'; clear Hp'
    have Hq' := Lib.hid (block_alloc Hq.out (.cells #[.int .i64 1, .int .i64 2, .int .i64 17, .int .i64 3, .int .i64 5, .bool false, .bool false, .int .i64 0, .string (ps.extract 0 8)] 26)); clear Hq; have Hq := Hq'; clear Hq'
    have Hf' := Lib.hid (block_alloc Hf.out (.cells #[.int .i64 1, .int .i64 2, .int .i64 17, .int .i64 3, .int .i64 5, .bool false, .bool false, .int .i64 0, .string (ps.extract 0 8)] 26)); clear Hf; have Hf := Hf'; clear Hf'
    have Hz' := Lib.hid (block_alloc Hz.out (.cells #[.int .i64 1, .int .i64 2, .int .i64 17, .int .i64 3, .int .i64 5, .bool false, .bool false, .int .i64 0, .string (ps.extract 0 8)] 26)); clear Hz; have Hz := Hz'; clear Hz'
    have c06' := Lib.hid (cell_alloc' (.cells #[.int .i64 1, .int .i64 2, .int .i64 17, .int .i64 3, .int .i64 5, .bool false, .bool false, .int .i64 0, .string (ps.extract 0 8)] 26) c06.out); clear c06; have c06 := c06'; clear c06'
    have c07' := Lib.hid (cell_alloc' (.cells #[.int .i64 1, .int .i64 2, .int .i64 17, .int .i64 3, .int .i64 5, .bool false, .bool false, .int .i64 0, .string (ps.extract 0 8)] 26) c07.out); clear c07; have c07 := c07'; clear c07'
    have c16' := Lib.hid (cell_alloc' (.cells #[.int .i64 1, .int .i64 2, .int .i64 17, .int .i64 3, .int .i64 5, .bool false, .bool false, .int .i64 0, .string (ps.extract 0 8)] 26) c16.out); clear c16; have c16 := c16'; clear c16'
    have c17' := Lib.hid (cell_alloc' (.cells #[.int .i64 1, .int .i64 2, .int .i64 17, .int .i64 3, .int .i64 5, .bool false, .bool false, .int .i64 0, .string (ps.extract 0 8)] 26) c17.out); clear c17; have c17 := c17'; clear c17'
    have c26' := Lib.hid (cell_alloc' (.cells #[.int .i64 1, .int .i64 2, .int .i64 17, .int .i64 3, .int .i64 5, .bool false, .bool false, .int .i64 0, .string (ps.extract 0 8)] 26) c26.out); clear c26; have c26 := c26'; clear c26'
    have c27' := Lib.hid (cell_alloc' (.cells #[.int .i64 1, .int .i64 2, .int .i64 17, .int .i64 3, .int .i64 5, .bool false, .bool false, .int .i64 0, .string (ps.extract 0 8)] 26) c27.out); clear c27; have c27 := c27'; clear c27'
    have c28' := Lib.hid (cell_alloc' (.cells #[.int .i64 1, .int .i64 2, .int .i64 17, .int .i64 3, .int .i64 5, .bool false, .bool false, .int .i64 0, .string (ps.extract 0 8)] 26) c28.out); clear c28; have c28 := c28'; clear c28'
    have HB' := below_alloc (o := .cells #[.int .i64 1, .int .i64 2, .int .i64 17, .int .i64 3, .int .i64 5, .bool false, .bool false, .int .i64 0, .string (ps.extract 0 8)] 26) HB; clear HB; have HB := HB'; clear HB'
    go_wp2_with fail
    go_meet
    exact ⟨_, rfl, rfl, rfl, rfl, rfl, rfl, rfl, rfl, rfl, rfl, rfl, rfl, rfl, c06.out, c07.out, c16.out, c17.out, c26.out, c27.out, c28.out, Hp.out, Hq.out, Hc.out, HB⟩
  case rest =>
    clear HB Hp Hq Hf Hz c06 c07 c16 c17 c26 c27 c28
    obtain ⟨gc, rfl, rfl, rfl, rfl, rfl, rfl, rfl, rfl, rfl, rfl, rfl, rfl, rfl, rc06, rc07, rc16, rc17, rc26, rc27, rc28, Hp, Hq, Hc, HB⟩ := hcut
    have Hp := Lib.hid Hp
    have Hq := Lib.hid Hq
    have Hc := Lib.hid Hc
    have h14o := h14.out
    have Sp := cells9 Hp.out
    obtain ⟨⟨qp0, qp1, qp2, qp3, qp4, qp5, qp6, qp7, qp8⟩, zp0, zp1, zp2, zp3, zp4, zp5, zp6, zp7, zp8⟩ := Sp
    have lt_p := blk_lt Hp.out
    have Sq := cells9 Hq.out
    obtain ⟨⟨qq0, qq1, qq2, qq3, qq4, qq5, qq6, qq7, qq8⟩, zq0, zq1, zq2, zq3, zq4, zq5, zq6, zq7, zq8⟩ := Sq
    have lt_q := blk_lt Hq.out
    have Sc := cells9 Hc.out
    obtain ⟨⟨qc0, qc1, qc2, qc3, qc4, qc5, qc6, qc7, qc8⟩, zc0, zc1, zc2, zc3, zc4, zc5, zc6, zc7, zc8⟩ := Sc
    have lt_c := blk_lt Hc.out
    have hI14 : (14 : Int) ≤ (E.size : Int) := by omega
    have hI8 : (8 : Int) ≤ (ps.size : Int) := by omega
    clear HPay HF HE HD HF2 HF3 HF4 HD2 HC h14 Hp Hq Hc
    go_wp2_with fail
    as_aux_lemma =>
    refine wp_region_quiet_big (by kernel_rfl) (by kernel_rfl) (by kernel_rfl) (by kernel_rfl) ?_
    repeat (first | go_big_quiet_step (fail) | quiet_step (fail))
    refine wpQuiet_nil ?_
    intro _ hw'
    obtain ⟨nq, hw''⟩ := hw'
    subst hw''
    go_wp2_with fail
    go_ret
    exact ⟨rfl, below_drewN HB _⟩
end Go.Proofs.YtpiohahfdekmhaaDoor.Ip
