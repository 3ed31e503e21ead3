/-
  The walk of the law ARPNilAndInvalid.
-/
import Derived.Test.YtjdoemmfemogmaaArSan
import Derived.Test.YtjdoemmfemogmaaArArgC
import Derived.Laws.MakeOwn
import Derived.Laws.OwnMore
import Derived.Laws.IdiomStrings
namespace Go.Proofs.Ytjdoemmfemogmaa.Ar
set_option maxRecDepth 100000
open Go.RowKit Go.Proofs.Ytjdoemmfemogmaa.Wire

theorem receive_nil (now op f fm t tm : Int) (w : World) : Calls Try.prog 22 #[.pointer none, .int .i64 now, .agg #[.int .i64 op, .int .i64 f, .int .i64 fm, .int .i64 t, .int .i64 tm]] w fun e w' => e = .returned (.tuple #[.slice none 0 0, .slice none 0 0]) ∧ Below w.heap.size w w' := by
  go_enter Try.func22, Try.ntmps22
  go_wp2_with fail
  go_ret2
  exact ⟨rfl, below_alloc (Below.refl _ _)⟩
theorem tick_nil (now : Int) (w : World) : Calls Try.prog 27 #[.pointer none, .int .i64 now] w fun e w' => (e = .returned (.tuple #[.slice none 0 0, .slice none 0 0])) ∧ Below w.heap.size w w' := by
  go_enter Try.func27, Try.ntmps27
  go_wp2_with fail
  go_ret2
  exact ⟨rfl, below_alloc (below_alloc (Below.refl _ _))⟩
theorem infoU8 : (Try.prog.info? 5).map (fun i => (i.zero, i.size, i.bytes)) = some (some (.int .u8 0), 1, 1) := by kernel_rfl
/-- the string of n zero bytes -/
def zstr (n : Nat) : ByteArray := ⟨(List.replicate n (0 : UInt8)).toArray⟩
theorem zstr_size (n : Nat) : (zstr n).size = n := by unfold zstr; show (List.replicate n (0 : UInt8)).toArray.size = n; simp
theorem mk_bytes (n : Nat) (hn : n ≤ 5000) (W : World) : (Instr.makeSlice 34 (.int .i64 (n : Int)) (.int .i64 (n : Int))).run Try.prog W = .ok (.slice (some ⟨W.heap.size, 0, none⟩) n n) (W.alloc (.cells (madeCells #[.int .u8 0] n) 5)) := by
  obtain ⟨i0, hi, hz0, hz1, hz2⟩ := info_parts infoU8
  have h := run_makeSlice (P := Try.prog) (w := W) 34 5 i0 (.int .u8 0) Try.underlying34 hi hz0 .i64 .i64 (n : Int) (n : Int) (by omega) (by omega) (by rw [hz1]; omega) (by rw [hz2]; omega) (by omega)
  rw [hz1] at h
  simpa [Value.cells] using h
theorem conv_zeros (n : Nat) (W : World) : (convert 34 9 (.slice (some ⟨W.heap.size, 0, none⟩) n n)).run Try.prog (W.alloc (.cells (madeCells #[.int .u8 0] n) 5)) = .ok (.string (zstr n)) (W.alloc (.cells (madeCells #[.int .u8 0] n) 5)) := by
  have h := run_convert_bytes_back (P := Try.prog) (W.alloc (.cells (madeCells #[.int .u8 0] n) 5)) 34 9 5 ⟨W.heap.size, 0, none⟩ n (List.replicate n (0 : UInt8)) Try.underlying34 Try.underlying5 Try.underlying9 (fun j hj => by
    have hj' : j < n := by simpa using hj
    have e : (⟨W.heap.size, 0, none⟩ : Addr).add j = ⟨W.heap.size, j, none⟩ := by unfold Addr.add; split <;> simp_all
    rw [e]
    have hc : (madeCells #[Value.int .u8 0] n)[j]? = some (.int .u8 0) := by
      rw [← Array.getElem?_toList, toList_madeCells_one]
      simp [hj']
    have := (cell_of_block (alloc_new W (.cells (madeCells #[.int .u8 0] n) 5)) hc).1
    rw [this]; simp)
  unfold zstr
  simpa using h
theorem send_err {c : Tc} {A : AL} {now to_ : Int} {s : ByteArray} (h : uniB to_ = false ∨ to_ = c.own ∨ 1024 < s.size) : sendA c A now to_ s = (A, 0, [], 50) := by unfold sendA; rw [if_pos h]
set_option maxHeartbeats 8000000 in
theorem nil_law (kd : Int) (ad mc to_ op : Int) (s : ByteArray) (ti a0 a1 a2 a3 a4 n : Int) (w : World) (h1 : In64 ad) (h2 : In64 mc) (h3 : In64 to_) (h4 : In64 op) (hn : In64 n) :
    Calls Try.prog 11 #[.agg #[.int .u8 kd, .int .i64 ad, .int .i64 mc, .int .i64 to_, .int .i64 op, .string s, .int .i64 ti, .int .i64 a0, .int .i64 a1, .int .i64 a2, .int .i64 a3, .int .i64 a4], .int .i64 n] w fun x w' => x = .returned (.bool true) ∧ Below w.heap.size w w' := by
  have P1 := Lib.hid (fun W => pick_any n 1000 W hn (by omega) (by omega))
  have P2 := Lib.hid (fun W => pick_any n 100 W hn (by omega) (by omega))
  have b1 := pick_lt n 1000 (by omega); have b2 := pick_lt n 100 (by omega)
  have PM := Lib.hid (fun W => message_any kd ad mc to_ op s ti a0 a1 a2 a3 a4 W h1 h2 h3 h4)
  generalize msgC ad mc to_ op = M at *
  generalize pick n 1000 = z1 at *
  obtain ⟨z2, hz2⟩ := Int.eq_ofNat_of_zero_le b2.1
  rw [hz2] at P2 b2
  clear hn h1 h2 h3 h4 hz2
  obtain ⟨mo, mf, mfm, mt, mtm⟩ := M
  have HX := Lib.hid (alloc_new w (.cells #[.int .u8 kd, .int .i64 ad, .int .i64 mc, .int .i64 to_, .int .i64 op, .string s, .int .i64 ti, .int .i64 a0, .int .i64 a1, .int .i64 a2, .int .i64 a3, .int .i64 a4] 25))
  have HB := Lib.hid (below_alloc (o := .cells #[.int .u8 kd, .int .i64 ad, .int .i64 mc, .int .i64 to_, .int .i64 op, .string s, .int .i64 ti, .int .i64 a0, .int .i64 a1, .int .i64 a2, .int .i64 a3, .int .i64 a4] 25) (Below.refl w.heap.size w))
  go_enter Try.func11, Try.ntmps11
  go_upto_region 1 with fail
  generalize w.alloc (.cells #[.int .u8 kd, .int .i64 ad, .int .i64 mc, .int .i64 to_, .int .i64 op, .string s, .int .i64 ti, .int .i64 a0, .int .i64 a1, .int .i64 a2, .int .i64 a3, .int .i64 a4] 25) = w0 at *
  go_wp2_with fail
  refine (sanity_any _).mono ?_
  rintro x w1 ⟨rfl, hb1⟩
  have HX1 := Lib.hid (bblock hb1 HX.out); have HB1 := Lib.hid (below_call HB.out hb1)
  clear hb1 HX HB
  go_wp2_with fail
  refine (send_nil 0 11 ⟨#[97]⟩ _).mono ?_
  rintro x w' ⟨rfl, rfl⟩
  have q0 : w1.cell? ⟨w.heap.size, 0, none⟩ = some (.int .u8 kd) := (cell_of_block (k := 0) HX1.out rfl).1
  have q1 : w1.cell? ⟨w.heap.size, 1, none⟩ = some (.int .i64 ad) := (cell_of_block (k := 1) HX1.out rfl).1
  have q2 : w1.cell? ⟨w.heap.size, 2, none⟩ = some (.int .i64 mc) := (cell_of_block (k := 2) HX1.out rfl).1
  have q3 : w1.cell? ⟨w.heap.size, 3, none⟩ = some (.int .i64 to_) := (cell_of_block (k := 3) HX1.out rfl).1
  have q4 : w1.cell? ⟨w.heap.size, 4, none⟩ = some (.int .i64 op) := (cell_of_block (k := 4) HX1.out rfl).1
  have q5 : w1.cell? ⟨w.heap.size, 5, none⟩ = some (.string s) := (cell_of_block (k := 5) HX1.out rfl).1
  have q6 : w1.cell? ⟨w.heap.size, 6, none⟩ = some (.int .i64 ti) := (cell_of_block (k := 6) HX1.out rfl).1
  have q7 : w1.cell? ⟨w.heap.size, 7, none⟩ = some (.int .i64 a0) := (cell_of_block (k := 7) HX1.out rfl).1
  have q8 : w1.cell? ⟨w.heap.size, 8, none⟩ = some (.int .i64 a1) := (cell_of_block (k := 8) HX1.out rfl).1
  have q9 : w1.cell? ⟨w.heap.size, 9, none⟩ = some (.int .i64 a2) := (cell_of_block (k := 9) HX1.out rfl).1
  have q10 : w1.cell? ⟨w.heap.size, 10, none⟩ = some (.int .i64 a3) := (cell_of_block (k := 10) HX1.out rfl).1
  have q11 : w1.cell? ⟨w.heap.size, 11, none⟩ = some (.int .i64 a4) := (cell_of_block (k := 11) HX1.out rfl).1
  go_wp2_with fail
  refine (PM.out _).mono ?_
  rintro x w2 ⟨rfl, hb2⟩
  have HB2 := Lib.hid (below_call HB1.out hb2)
  clear q0 q1 q2 q3 q4 q5 q6 q7 q8 q9 q10 q11 HX1 hb2 HB1
  go_wp2_with fail
  refine (receive_nil 0 _ _ _ _ _ _).mono ?_
  rintro x w3 ⟨rfl, hb3⟩
  have HB3 := Lib.hid (below_call HB2.out hb3)
  clear hb3 HB2
  go_wp2_with fail
  refine (tick_nil n _).mono ?_
  rintro x w4 ⟨rfl, hb4⟩
  have HB4 := Lib.hid (below_call HB3.out hb4)
  clear hb4 HB3
  go_wp2_with fail
  refine (known_nil 11 _).mono ?_
  rintro x w' ⟨rfl, rfl⟩
  go_wp2_with fail
  refine (sizes_nil _).mono ?_
  rintro x w' ⟨rfl, rfl⟩
  go_wp2_with fail
  refine (new_any 10 5 _).mono ?_
  rintro x w5 (⟨-, -, rfl, hw5⟩ | ⟨hb, -, -⟩)
  case inr => rcases hb with hb | hb <;> cases hb
  have HO : Hid (OneA w w4.heap.size ⟨10, 5, false, 0⟩ [] (fun _ => False) w5) := Lib.hid (by rw [hw5]; exact (OneA.ofNew HB4.out 10 5).more (fun q hq => hq.elim))
  obtain ⟨T, hT⟩ : ∃ T, w4.heap.size = T := ⟨_, rfl⟩
  rw [hT] at HO ⊢
  clear hw5 hT HB4
  have hneg : IntKind.i64.wrap (-z1) = -z1 := IntWalk.i64_in _ (by omega)
  have hadd : IntKind.i64.wrap (4294967295 + z1) = 4294967295 + z1 := IntWalk.i64_in _ (by omega)
  have hadd2 : IntKind.i64.wrap (1025 + (z2 : Int)) = 1025 + (z2 : Int) := IntWalk.i64_in _ (by omega)
  have i0 : In64 0 := by unfold In64; omega
  go_wp2_with fail
  refine (P1.out _).mono ?_
  rintro x w' ⟨rfl, rfl⟩
  go_wp2_with fail
  refine (HO.out.send 0 (-z1) ⟨#[97]⟩ _ _ _ _ (send_err (.inl (by unfold uniB; exact decide_eq_false (by omega)))) (by simp [ByteArray.size]) i0 (by simp)).mono ?_
  rintro x w6 ⟨B6, k6, rfl, -, ho, -⟩
  have HO6 := Lib.hid (ho.more (K' := fun _ => False) (fun q hq => hq.elim))
  clear ho HO
  go_wp2_with fail
  refine (P1.out _).mono ?_
  rintro x w' ⟨rfl, rfl⟩
  go_wp2_with fail
  refine (HO6.out.send 0 (4294967295 + z1) ⟨#[97]⟩ _ _ _ _ (send_err (.inl (by unfold uniB; exact decide_eq_false (by omega)))) (by simp [ByteArray.size]) i0 (by simp)).mono ?_
  rintro x w7 ⟨B7, k7, rfl, -, ho, -⟩
  have HO7 := Lib.hid (ho.more (K' := fun _ => False) (fun q hq => hq.elim))
  clear ho HO6
  have hmk := mk_bytes (1025 + z2) (by omega)
  have hcv := conv_zeros (1025 + z2)
  rw [show (((1025 + z2 : Nat)) : Int) = 1025 + (z2 : Int) by omega] at hmk
  have HO8 := Lib.hid (HO7.out.below ((Below.refl _ _).alloc (Nat.le_refl _) (.cells (madeCells #[.int .u8 0] (1025 + z2)) 5)))
  obtain ⟨N, hN⟩ : ∃ N, 1025 + z2 = N := ⟨_, rfl⟩
  rw [hN] at hmk hcv HO8
  have hN2 : 1025 ≤ N ∧ N ≤ 2000 := by omega
  have hzs := zstr_size N
  generalize zstr N = zs at *
  generalize madeCells #[.int .u8 0] N = ar at *
  clear hN
  go_wp2_with fail
  refine (P2.out _).mono ?_
  rintro x w' ⟨rfl, rfl⟩
  go_wp2_with fail
  refine (HO8.out.send 0 11 zs _ _ _ _ (send_err (.inr (.inr (by omega)))) (by omega) i0 (by simp)).mono ?_
  rintro x w9 ⟨B9, k9, rfl, -, ho, -⟩
  have HO9 := Lib.hid (ho.more (K' := fun _ => False) (fun q hq => hq.elim))
  clear ho HO8 HO7 hmk hcv hzs
  go_wp2_with fail
  refine (HO9.out.sizes 0 0 rfl rfl (by omega)).mono ?_
  rintro x w10 ⟨rfl, hb10⟩
  have HBF := Lib.hid (below_call HO9.out.bel hb10)
  clear hb10
  go_wp2_with fail
  go_ret
  exact ⟨rfl, HBF.out⟩
end Go.Proofs.Ytjdoemmfemogmaa.Ar
