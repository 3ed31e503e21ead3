/-
  Contracts of the reference's put, get and bytes of chapter 11: bytes writes a valid segment as write does.
-/
import Derived.Test.YtkinlmanimdlcaaSgRv
import Derived.Test.YtkinlmanimdlcaaSgDec2
import Derived.Test.YtkinlmanimdlcaaRef01
import Derived.IntWalk
import Derived.Deep.RegionHeld3
import Derived.Deep.QuietTactic
namespace Go.Proofs.Ytkinlmanimdlcaa.Sg
open Go.RowKit Go.Proofs.Ytkinlmanimdlcaa.Wire

set_option maxHeartbeats 400000 in
theorem rp_any (n : Int) (b : Nat) (w : World) (h1 : 1 ≤ b) (h4 : b ≤ 4) (h0 : 0 ≤ n) (hn : n < 256 ^ b) :
    Calls Try.prog 34 #[.int .i64 n, .int .i64 (b : Int)] w fun e w' => e = .returned (.string ⟨(be b n).toArray⟩) ∧ Below w.heap.size w w' := by
  have HP := Lib.hid fun W => rput_ok n b W h1 h4 h0 hn
  clear hn
  go_enter Try.func34, Try.ntmps34
  go_wp2_with fail
  refine (HP.out _).mono ?_
  rintro e w1 ⟨rfl, hb⟩
  go_wp2_with fail
  go_ret
  exact ⟨rfl, hb⟩
set_option maxHeartbeats 400000 in
theorem rg_any (s : ByteArray) (a b : Nat) (w : World) (h1 : 1 ≤ b) (h4 : b ≤ 4) (hm : s.size ≤ 9223372036854775807) (hn : a + b ≤ s.size) :
    Calls Try.prog 45 #[.string s, .int .i64 (a : Int), .int .i64 (b : Int)] w fun e w' => e = .returned (.int .i64 (nA s a b)) ∧ w = w' := by
  have HP := Lib.hid fun W => rget_ok s a b W h1 h4 hm hn
  go_enter Try.func45, Try.ntmps45
  go_wp2_with fail
  refine (HP.out _).mono ?_
  rintro e w1 ⟨rfl, rfl⟩
  go_wp2_with fail
  go_ret
  exact ⟨rfl, rfl⟩
def bI (b : Bool) : Int := if b then 1 else 0
theorem bI_bd (b : Bool) : 0 ≤ bI b ∧ bI b ≤ 1 := by cases b <;> decide
theorem bI_sum (a b c d e : Bool) : bI a + 2 * bI b + 4 * bI c + 8 * bI d + 16 * bI e = flagsOf a b c d e := by
  cases a <;> cases b <;> cases c <;> cases d <;> cases e <;> decide
set_option maxRecDepth 100000 in
set_option maxHeartbeats 4000000 in
theorem rbytes_any (fp tp sq ack : Int) (syn fin rst ha : Bool) (win mss : Int) (sacks : Bool) (A : Option Addr) (n c : Nat) (bl : List (Int × Int)) (s : ByteArray) (sum : Int) (w : World) (hs0 : 0 ≤ sum) (hs1 : sum ≤ 65535) (hv : Vld fp tp sq ack syn fin rst ha win mss sacks bl s.size) (hb : Bks w A n bl) :
    Calls Try.prog 32 #[.agg #[.int .i64 fp, .int .i64 tp, .int .i64 sq, .int .i64 ack, .bool syn, .bool fin, .bool rst, .bool ha, .int .i64 win, .int .i64 mss, .bool sacks, .slice A n c, .string s], .int .i64 sum] w fun e w' => e = .returned (.string ⟨(sb fp tp sq ack syn fin rst ha win mss sacks bl s sum).toArray⟩) ∧ Below w.heap.size w w' := by
  have HB0 := Lib.hid hb; clear hb
  have HL := Lib.hid HB0.out.1
  obtain ⟨⟨⟨a1, a2⟩, ⟨a3, a4⟩, ⟨a5, a6⟩, ⟨a7, a8⟩, -, a9, a10⟩, ⟨-, -, -, a11⟩, ⟨⟨a12, -⟩, hB1⟩, hVS⟩ := hv
  have HBd := Lib.hid hB1; clear hB1
  have hsz : s.size ≤ 1024 := by unfold VS at hVS; split at hVS <;> omega
  have hn3 : n ≤ 3 := by have := HL.out; omega
  clear hVS a12
  have t0b := bI_bd syn
  have HT0 : Hid (∀ W, Calls Try.prog 40 #[.bool syn] W fun e w' => e = .returned (.int .i64 (bI syn)) ∧ w' = W) := Lib.hid fun W => rtruth_any syn W
  have t1b := bI_bd fin
  have HT1 : Hid (∀ W, Calls Try.prog 40 #[.bool fin] W fun e w' => e = .returned (.int .i64 (bI fin)) ∧ w' = W) := Lib.hid fun W => rtruth_any fin W
  have t2b := bI_bd rst
  have HT2 : Hid (∀ W, Calls Try.prog 40 #[.bool rst] W fun e w' => e = .returned (.int .i64 (bI rst)) ∧ w' = W) := Lib.hid fun W => rtruth_any rst W
  have t3b := bI_bd ha
  have HT3 : Hid (∀ W, Calls Try.prog 40 #[.bool ha] W fun e w' => e = .returned (.int .i64 (bI ha)) ∧ w' = W) := Lib.hid fun W => rtruth_any ha W
  have t4b := bI_bd sacks
  have HT4 : Hid (∀ W, Calls Try.prog 40 #[.bool sacks] W fun e w' => e = .returned (.int .i64 (bI sacks)) ∧ w' = W) := Lib.hid fun W => rtruth_any sacks W
  have hfs := bI_sum syn fin rst ha sacks
  generalize hbi0 : bI syn = t0 at *
  generalize hbi1 : bI fin = t1 at *
  generalize hbi2 : bI rst = t2 at *
  generalize hbi3 : bI ha = t3 at *
  generalize hbi4 : bI sacks = t4 at *
  clear hbi0 hbi1 hbi2 hbi3 hbi4
  have wm1 : IntKind.i64.wrap (2 * t1) = 2 * t1 := IntWalk.i64_in _ (by omega)
  have ws1 : IntKind.i64.wrap (t0 + 2 * t1) = t0 + 2 * t1 := IntWalk.i64_in _ (by omega)
  have wm2 : IntKind.i64.wrap (4 * t2) = 4 * t2 := IntWalk.i64_in _ (by omega)
  have ws2 : IntKind.i64.wrap (t0 + 2 * t1 + 4 * t2) = t0 + 2 * t1 + 4 * t2 := IntWalk.i64_in _ (by omega)
  have wm3 : IntKind.i64.wrap (8 * t3) = 8 * t3 := IntWalk.i64_in _ (by omega)
  have ws3 : IntKind.i64.wrap (t0 + 2 * t1 + 4 * t2 + 8 * t3) = t0 + 2 * t1 + 4 * t2 + 8 * t3 := IntWalk.i64_in _ (by omega)
  have wm4 : IntKind.i64.wrap (16 * t4) = 16 * t4 := IntWalk.i64_in _ (by omega)
  have ws4 : IntKind.i64.wrap (t0 + 2 * t1 + 4 * t2 + 8 * t3 + 16 * t4) = t0 + 2 * t1 + 4 * t2 + 8 * t3 + 16 * t4 := IntWalk.i64_in _ (by omega)
  have HB := Below.refl w.heap.size w
  have Hx := Lib.hid (alloc_new' w (.cells #[.int .i64 fp, .int .i64 tp, .int .i64 sq, .int .i64 ack, .bool syn, .bool fin, .bool rst, .bool ha, .int .i64 win, .int .i64 mss, .bool sacks, .slice A n c, .string s] 24) (w.heap.size) (by simp))
  have HB' := below_alloc (o := .cells #[.int .i64 fp, .int .i64 tp, .int .i64 sq, .int .i64 ack, .bool syn, .bool fin, .bool rst, .bool ha, .int .i64 win, .int .i64 mss, .bool sacks, .slice A n c, .string s] 24) HB; clear HB; have HB := HB'; clear HB'
  go_enter Try.func32, Try.ntmps32
  go_upto_region 1 with fail
  go_cut [5] (fun s5 wz => s5 = .int .i64 (flagsOf syn fin rst ha sacks) ∧ wz.heap[w.heap.size]? = some (.cells #[.int .i64 fp, .int .i64 tp, .int .i64 sq, .int .i64 ack, .bool syn, .bool fin, .bool rst, .bool ha, .int .i64 win, .int .i64 mss, .bool sacks, .slice A n c, .string s] 24) ∧ Below w.heap.size w wz)
  case first =>
    have HBa := Below.refl (w.alloc (.cells #[.int .i64 fp, .int .i64 tp, .int .i64 sq, .int .i64 ack, .bool syn, .bool fin, .bool rst, .bool ha, .int .i64 win, .int .i64 mss, .bool sacks, .slice A n c, .string s] 24)).heap.size (w.alloc (.cells #[.int .i64 fp, .int .i64 tp, .int .i64 sq, .int .i64 ack, .bool syn, .bool fin, .bool rst, .bool ha, .int .i64 win, .int .i64 mss, .bool sacks, .slice A n c, .string s] 24))
    have qx4 := (cell_of_block (k := 4) Hx.out rfl).1; have zx4 := (cell_of_block (k := 4) Hx.out rfl).2
    have qx5 := (cell_of_block (k := 5) Hx.out rfl).1; have zx5 := (cell_of_block (k := 5) Hx.out rfl).2
    have qx6 := (cell_of_block (k := 6) Hx.out rfl).1; have zx6 := (cell_of_block (k := 6) Hx.out rfl).2
    have qx7 := (cell_of_block (k := 7) Hx.out rfl).1; have zx7 := (cell_of_block (k := 7) Hx.out rfl).2
    have qx10 := (cell_of_block (k := 10) Hx.out rfl).1; have zx10 := (cell_of_block (k := 10) Hx.out rfl).2
    have lt_x := blk_lt Hx.out
    go_quiet ((first | (go_at_call 40; exact Calls.quiet_of_same (HT0.out _)) | (go_at_call 40; exact Calls.quiet_of_same (HT1.out _)) | (go_at_call 40; exact Calls.quiet_of_same (HT2.out _)) | (go_at_call 40; exact Calls.quiet_of_same (HT3.out _)) | (go_at_call 40; exact Calls.quiet_of_same (HT4.out _))))
    go_wp2_with fail
    go_meet
    exact ⟨rfl, bblock (below_drewN HBa _) Hx.out, below_drewN HB _⟩
  case rest =>
    clear Hx HB
    obtain ⟨rfl, hx, HB⟩ := hcut
    obtain ⟨w0, rfl⟩ : ∃ wo : World, wo = wc := ⟨_, rfl⟩
    have Hx := Lib.hid hx; clear hx
    clear wm1 ws1 wm2 ws2 wm3 ws3 wm4 ws4 HT0 HT1 HT2 HT3 HT4
    have hfl : 0 ≤ flagsOf syn fin rst ha sacks ∧ flagsOf syn fin rst ha sacks ≤ 31 := fsum_bd _ _ _ _ _ 5
    clear hfs t0b t1b t2b t3b t4b
    generalize hfg : flagsOf syn fin rst ha sacks = fg at *
    have HFG := Lib.hid hfg; clear hfg
    have HP0 := Lib.hid fun W => rp_any fp 2 W (by omega) (by omega) (by omega) (by omega)
    have l0 : (be 2 fp).length = 2 := be_length _ _
    generalize hb0_ : be 2 fp = B0 at *
    have HE0 := Lib.hid hb0_; clear hb0_
    have HP1 := Lib.hid fun W => rp_any tp 2 W (by omega) (by omega) (by omega) (by omega)
    have l1 : (be 2 tp).length = 2 := be_length _ _
    generalize hb1_ : be 2 tp = B1 at *
    have HE1 := Lib.hid hb1_; clear hb1_
    have HP2 := Lib.hid fun W => rp_any sq 4 W (by omega) (by omega) (by omega) (by omega)
    have l2 : (be 4 sq).length = 4 := be_length _ _
    generalize hb2_ : be 4 sq = B2 at *
    have HE2 := Lib.hid hb2_; clear hb2_
    have HP3 := Lib.hid fun W => rp_any ack 4 W (by omega) (by omega) (by omega) (by omega)
    have l3 : (be 4 ack).length = 4 := be_length _ _
    generalize hb3_ : be 4 ack = B3 at *
    have HE3 := Lib.hid hb3_; clear hb3_
    have HP4 := Lib.hid fun W => rp_any fg 1 W (by omega) (by omega) (by omega) (by omega)
    have l4 : (be 1 fg).length = 1 := be_length _ _
    generalize hb4_ : be 1 fg = B4 at *
    have HE4 := Lib.hid hb4_; clear hb4_
    have HP5 := Lib.hid fun W => rp_any (n : Int) 1 W (by omega) (by omega) (by omega) (by omega)
    have l5 : (be 1 (n : Int)).length = 1 := be_length _ _
    generalize hb5_ : be 1 (n : Int) = B5 at *
    have HE5 := Lib.hid hb5_; clear hb5_
    have HP6 := Lib.hid fun W => rp_any win 2 W (by omega) (by omega) (by omega) (by omega)
    have l6 : (be 2 win).length = 2 := be_length _ _
    generalize hb6_ : be 2 win = B6 at *
    have HE6 := Lib.hid hb6_; clear hb6_
    have HP7 := Lib.hid fun W => rp_any mss 2 W (by omega) (by omega) (by omega) (by omega)
    have l7 : (be 2 mss).length = 2 := be_length _ _
    generalize hb7_ : be 2 mss = B7 at *
    have HE7 := Lib.hid hb7_; clear hb7_
    have HP8 := Lib.hid fun W => rp_any sum 2 W (by omega) (by omega) (by omega) (by omega)
    have l8 : (be 2 sum).length = 2 := be_length _ _
    generalize hb8_ : be 2 sum = B8 at *
    have HE8 := Lib.hid hb8_; clear hb8_
    go_wp2_with fail
    have HR := Below.refl w0.heap.size w0
    have gx0 : Hid (w0.cell? ⟨w.heap.size, 0, none⟩ = some (.int .i64 fp)) := Lib.hid (cell_of_block (k := 0) Hx.out rfl).1
    have gx1 : Hid (w0.cell? ⟨w.heap.size, 1, none⟩ = some (.int .i64 tp)) := Lib.hid (cell_of_block (k := 1) Hx.out rfl).1
    have gx2 : Hid (w0.cell? ⟨w.heap.size, 2, none⟩ = some (.int .i64 sq)) := Lib.hid (cell_of_block (k := 2) Hx.out rfl).1
    have gx3 : Hid (w0.cell? ⟨w.heap.size, 3, none⟩ = some (.int .i64 ack)) := Lib.hid (cell_of_block (k := 3) Hx.out rfl).1
    have gx4 : Hid (w0.cell? ⟨w.heap.size, 4, none⟩ = some (.bool syn)) := Lib.hid (cell_of_block (k := 4) Hx.out rfl).1
    have gx5 : Hid (w0.cell? ⟨w.heap.size, 5, none⟩ = some (.bool fin)) := Lib.hid (cell_of_block (k := 5) Hx.out rfl).1
    have gx6 : Hid (w0.cell? ⟨w.heap.size, 6, none⟩ = some (.bool rst)) := Lib.hid (cell_of_block (k := 6) Hx.out rfl).1
    have gx7 : Hid (w0.cell? ⟨w.heap.size, 7, none⟩ = some (.bool ha)) := Lib.hid (cell_of_block (k := 7) Hx.out rfl).1
    have gx8 : Hid (w0.cell? ⟨w.heap.size, 8, none⟩ = some (.int .i64 win)) := Lib.hid (cell_of_block (k := 8) Hx.out rfl).1
    have gx9 : Hid (w0.cell? ⟨w.heap.size, 9, none⟩ = some (.int .i64 mss)) := Lib.hid (cell_of_block (k := 9) Hx.out rfl).1
    have gx10 : Hid (w0.cell? ⟨w.heap.size, 10, none⟩ = some (.bool sacks)) := Lib.hid (cell_of_block (k := 10) Hx.out rfl).1
    have gx11 : Hid (w0.cell? ⟨w.heap.size, 11, none⟩ = some (.slice A n c)) := Lib.hid (cell_of_block (k := 11) Hx.out rfl).1
    have gx12 : Hid (w0.cell? ⟨w.heap.size, 12, none⟩ = some (.string s)) := Lib.hid (cell_of_block (k := 12) Hx.out rfl).1
    go_region_held3 (fun w' => w'.cell? ⟨w.heap.size, 0, none⟩ = some (.int .i64 fp) ∧ w'.cell? ⟨w.heap.size, 1, none⟩ = some (.int .i64 tp) ∧ w'.cell? ⟨w.heap.size, 2, none⟩ = some (.int .i64 sq) ∧ w'.cell? ⟨w.heap.size, 3, none⟩ = some (.int .i64 ack) ∧ w'.cell? ⟨w.heap.size, 4, none⟩ = some (.bool syn) ∧ w'.cell? ⟨w.heap.size, 5, none⟩ = some (.bool fin) ∧ w'.cell? ⟨w.heap.size, 6, none⟩ = some (.bool rst) ∧ w'.cell? ⟨w.heap.size, 7, none⟩ = some (.bool ha) ∧ w'.cell? ⟨w.heap.size, 8, none⟩ = some (.int .i64 win) ∧ w'.cell? ⟨w.heap.size, 9, none⟩ = some (.int .i64 mss) ∧ w'.cell? ⟨w.heap.size, 10, none⟩ = some (.bool sacks) ∧ w'.cell? ⟨w.heap.size, 11, none⟩ = some (.slice A n c) ∧ w'.cell? ⟨w.heap.size, 12, none⟩ = some (.string s) ∧ Below w0.heap.size w0 w') (first | with_reducible exact ⟨bcell (hRv9.out) gx0.out, bcell (hRv9.out) gx1.out, bcell (hRv9.out) gx2.out, bcell (hRv9.out) gx3.out, bcell (hRv9.out) gx4.out, bcell (hRv9.out) gx5.out, bcell (hRv9.out) gx6.out, bcell (hRv9.out) gx7.out, bcell (hRv9.out) gx8.out, bcell (hRv9.out) gx9.out, bcell (hRv9.out) gx10.out, bcell (hRv9.out) gx11.out, bcell (hRv9.out) gx12.out, hRv9.out⟩ | with_reducible exact ⟨bcell (hRv8.out) gx0.out, bcell (hRv8.out) gx1.out, bcell (hRv8.out) gx2.out, bcell (hRv8.out) gx3.out, bcell (hRv8.out) gx4.out, bcell (hRv8.out) gx5.out, bcell (hRv8.out) gx6.out, bcell (hRv8.out) gx7.out, bcell (hRv8.out) gx8.out, bcell (hRv8.out) gx9.out, bcell (hRv8.out) gx10.out, bcell (hRv8.out) gx11.out, bcell (hRv8.out) gx12.out, hRv8.out⟩ | with_reducible exact ⟨bcell (hRv7.out) gx0.out, bcell (hRv7.out) gx1.out, bcell (hRv7.out) gx2.out, bcell (hRv7.out) gx3.out, bcell (hRv7.out) gx4.out, bcell (hRv7.out) gx5.out, bcell (hRv7.out) gx6.out, bcell (hRv7.out) gx7.out, bcell (hRv7.out) gx8.out, bcell (hRv7.out) gx9.out, bcell (hRv7.out) gx10.out, bcell (hRv7.out) gx11.out, bcell (hRv7.out) gx12.out, hRv7.out⟩ | with_reducible exact ⟨bcell (hRv6.out) gx0.out, bcell (hRv6.out) gx1.out, bcell (hRv6.out) gx2.out, bcell (hRv6.out) gx3.out, bcell (hRv6.out) gx4.out, bcell (hRv6.out) gx5.out, bcell (hRv6.out) gx6.out, bcell (hRv6.out) gx7.out, bcell (hRv6.out) gx8.out, bcell (hRv6.out) gx9.out, bcell (hRv6.out) gx10.out, bcell (hRv6.out) gx11.out, bcell (hRv6.out) gx12.out, hRv6.out⟩ | with_reducible exact ⟨bcell (hRv5.out) gx0.out, bcell (hRv5.out) gx1.out, bcell (hRv5.out) gx2.out, bcell (hRv5.out) gx3.out, bcell (hRv5.out) gx4.out, bcell (hRv5.out) gx5.out, bcell (hRv5.out) gx6.out, bcell (hRv5.out) gx7.out, bcell (hRv5.out) gx8.out, bcell (hRv5.out) gx9.out, bcell (hRv5.out) gx10.out, bcell (hRv5.out) gx11.out, bcell (hRv5.out) gx12.out, hRv5.out⟩ | with_reducible exact ⟨bcell (hRv4.out) gx0.out, bcell (hRv4.out) gx1.out, bcell (hRv4.out) gx2.out, bcell (hRv4.out) gx3.out, bcell (hRv4.out) gx4.out, bcell (hRv4.out) gx5.out, bcell (hRv4.out) gx6.out, bcell (hRv4.out) gx7.out, bcell (hRv4.out) gx8.out, bcell (hRv4.out) gx9.out, bcell (hRv4.out) gx10.out, bcell (hRv4.out) gx11.out, bcell (hRv4.out) gx12.out, hRv4.out⟩ | with_reducible exact ⟨bcell (hRv3.out) gx0.out, bcell (hRv3.out) gx1.out, bcell (hRv3.out) gx2.out, bcell (hRv3.out) gx3.out, bcell (hRv3.out) gx4.out, bcell (hRv3.out) gx5.out, bcell (hRv3.out) gx6.out, bcell (hRv3.out) gx7.out, bcell (hRv3.out) gx8.out, bcell (hRv3.out) gx9.out, bcell (hRv3.out) gx10.out, bcell (hRv3.out) gx11.out, bcell (hRv3.out) gx12.out, hRv3.out⟩ | with_reducible exact ⟨bcell (hRv2.out) gx0.out, bcell (hRv2.out) gx1.out, bcell (hRv2.out) gx2.out, bcell (hRv2.out) gx3.out, bcell (hRv2.out) gx4.out, bcell (hRv2.out) gx5.out, bcell (hRv2.out) gx6.out, bcell (hRv2.out) gx7.out, bcell (hRv2.out) gx8.out, bcell (hRv2.out) gx9.out, bcell (hRv2.out) gx10.out, bcell (hRv2.out) gx11.out, bcell (hRv2.out) gx12.out, hRv2.out⟩ | with_reducible exact ⟨bcell (hRv1.out) gx0.out, bcell (hRv1.out) gx1.out, bcell (hRv1.out) gx2.out, bcell (hRv1.out) gx3.out, bcell (hRv1.out) gx4.out, bcell (hRv1.out) gx5.out, bcell (hRv1.out) gx6.out, bcell (hRv1.out) gx7.out, bcell (hRv1.out) gx8.out, bcell (hRv1.out) gx9.out, bcell (hRv1.out) gx10.out, bcell (hRv1.out) gx11.out, bcell (hRv1.out) gx12.out, hRv1.out⟩ | exact ⟨gx0.out, gx1.out, gx2.out, gx3.out, gx4.out, gx5.out, gx6.out, gx7.out, gx8.out, gx9.out, gx10.out, gx11.out, gx12.out, HR.drew⟩)
      (first | (go_at_call 34; have _t := hRv8; clear _t; refine (HP8.out _).mono ?_; rintro e v9 ⟨rfl, hbv9⟩; have hRv9 := Lib.hid (below_call hRv8.out hbv9)) | (go_at_call 34; have _t := hRv7; clear _t; refine (HP7.out _).mono ?_; rintro e v8 ⟨rfl, hbv8⟩; have hRv8 := Lib.hid (below_call hRv7.out hbv8)) | (go_at_call 34; have _t := hRv6; clear _t; refine (HP6.out _).mono ?_; rintro e v7 ⟨rfl, hbv7⟩; have hRv7 := Lib.hid (below_call hRv6.out hbv7)) | (go_at_call 34; have _t := hRv5; clear _t; refine (HP5.out _).mono ?_; rintro e v6 ⟨rfl, hbv6⟩; have hRv6 := Lib.hid (below_call hRv5.out hbv6)) | (go_at_call 34; have _t := hRv4; clear _t; refine (HP4.out _).mono ?_; rintro e v5 ⟨rfl, hbv5⟩; have hRv5 := Lib.hid (below_call hRv4.out hbv5)) | (go_at_call 34; have _t := hRv3; clear _t; refine (HP3.out _).mono ?_; rintro e v4 ⟨rfl, hbv4⟩; have hRv4 := Lib.hid (below_call hRv3.out hbv4)) | (go_at_call 34; have _t := hRv2; clear _t; refine (HP2.out _).mono ?_; rintro e v3 ⟨rfl, hbv3⟩; have hRv3 := Lib.hid (below_call hRv2.out hbv3)) | (go_at_call 34; have _t := hRv1; clear _t; refine (HP1.out _).mono ?_; rintro e v2 ⟨rfl, hbv2⟩; have hRv2 := Lib.hid (below_call hRv1.out hbv2)) | (go_at_call 34; refine (HP0.out _).mono ?_; rintro e v1 ⟨rfl, hbv1⟩; have hRv1 := Lib.hid (below_call HR.drew hbv1)))
    have hb := hRv9.out
    clear HR hRv1 hbv1 hRv2 hbv2 hRv3 hbv3 hRv4 hbv4 hRv5 hbv5 hRv6 hbv6 hRv7 hbv7 hRv8 hbv8 hRv9 hbv9 gx0 gx1 gx2 gx3 gx4 gx5 gx6 gx7 gx8 gx9 gx10 gx11 gx12
    have Hx' := Lib.hid (bblock hb Hx.out); clear Hx; have Hx := Hx'; clear Hx'
    have HB' := below_call HB hb; clear HB hb; have HB := HB'; clear HB'; have hz := HB.size
    obtain ⟨P0, hP0⟩ : ∃ P0, P0 = B0 ++ B1 ++ B2 ++ B3 ++ B4 ++ B5 ++ B6 ++ B7 ++ B8 := ⟨_, rfl⟩
    have hP1 : P0.length ≤ 30 := by rw [hP0]; simp [l0, l1, l2, l3, l4, l5, l6, l7, l8]
    have HP := Lib.hid hP0; clear hP0 l0 HP0 l1 HP1 l2 HP2 l3 HP3 l4 HP4 l5 HP5 l6 HP6 l7 HP7 l8 HP8
    go_wp2_with fail
    go_loopw [6, 7] (fun t i wr => ∃ k : Nat, k ≤ n ∧ i = .int .i64 (k : Int) ∧ t = .string ⟨(P0 ++ blBytes (bl.take k)).toArray⟩ ∧ wr.heap[w.heap.size]? = some (.cells #[.int .i64 fp, .int .i64 tp, .int .i64 sq, .int .i64 ack, .bool syn, .bool fin, .bool rst, .bool ha, .int .i64 win, .int .i64 mss, .bool sacks, .slice A n c, .string s] 24) ∧ Below w.heap.size w wr) (fun _ i _ => n - (intOf i).toNat)
    case atStart => exact ⟨0, by omega, rfl, by rw [HP.out]; simp [ba_append, blBytes], Hx.out, HB⟩
    case round =>
      clear Hx HB
      obtain ⟨k, hk, rfl, rfl, hx, HB⟩ := hrel
      obtain ⟨wo, rfl⟩ : ∃ wo : World, wo = wr := ⟨_, rfl⟩
      have Hx := Lib.hid hx; clear hx
      have hTl : (P0 ++ blBytes (bl.take k)).length ≤ 100 := by rw [List.length_append, blBytes_length, List.length_take]; omega
      by_cases hlt : k < n
      · obtain ⟨g, a, b, rfl, hq, hg, c0, c1⟩ := HB0.out.at_ k hlt
        have hB := HBd.out k _ hq
        obtain ⟨⟨b1, b2⟩, ⟨b3, b4⟩, -⟩ := hB
        dsimp only at b1 b2 b3 b4
        have D0 := Lib.hid ((HB.cell (p := ⟨g, k * 2, none⟩) hg).trans c0)
        have D1 := Lib.hid ((HB.cell (p := ⟨g, k * 2 + 1, none⟩) hg).trans c1)
        clear c0 c1
        have HC0 := Lib.hid fun W => rp_any a 4 W (by omega) (by omega) (by omega) (by omega)
        have HC1 := Lib.hid fun W => rp_any b 4 W (by omega) (by omega) (by omega) (by omega)
        have m0 : (be 4 a).length = 4 := be_length _ _; have m1 : (be 4 b).length = 4 := be_length _ _
        have hsn : Hid (P0 ++ blBytes (bl.take (k + 1)) = P0 ++ blBytes (bl.take k) ++ be 4 a ++ be 4 b) := Lib.hid (by rw [List.take_add_one, hq]; simp [blBytes, bes])
        generalize P0 ++ blBytes (bl.take k) = T at *; generalize be 4 a = C0 at *; generalize be 4 b = C1 at *
        have i0 : (0 : Int) ≤ (k : Int) := by omega
        have i1 : (k : Int) < (n : Int) := by omega
        have s1 : ¬ 9223372036854775807 < T.length + 4 := by omega
        have s2 : ¬ 9223372036854775807 < T.length + 4 + 4 := by omega
        clear hq
        have qx11 := (cell_of_block (k := 11) Hx.out rfl).1; have zx11 := (cell_of_block (k := 11) Hx.out rfl).2
        have lt_x := blk_lt Hx.out
        go_wp2_with fail
        clear qx11 zx11 lt_x
        have HR := Below.refl wo.heap.size wo
        have gx11 : Hid (wo.cell? ⟨w.heap.size, 11, none⟩ = some (.slice (some ⟨g, 0, none⟩) n c)) := Lib.hid (cell_of_block (k := 11) Hx.out rfl).1
        go_region_held3 (fun w' => w'.cell? ⟨w.heap.size, 11, none⟩ = some (.slice (some ⟨g, 0, none⟩) n c) ∧ w'.cell? ⟨g, k * 2, none⟩ = some (.int .i64 a) ∧ w'.cell? ⟨g, k * 2 + 1, none⟩ = some (.int .i64 b) ∧ Below wo.heap.size wo w') (first | with_reducible exact ⟨bcell (hRu2.out) gx11.out, bcell (hRu2.out) D0.out, bcell (hRu2.out) D1.out, hRu2.out⟩ | with_reducible exact ⟨bcell (hRu1.out) gx11.out, bcell (hRu1.out) D0.out, bcell (hRu1.out) D1.out, hRu1.out⟩ | exact ⟨gx11.out, D0.out, D1.out, HR.drew⟩)
          (first | (go_at_call 34; have _t := hRu1; clear _t; refine (HC1.out _).mono ?_; rintro e u2 ⟨rfl, hbu2⟩; have hRu2 := Lib.hid (below_call hRu1.out hbu2)) | (go_at_call 34; refine (HC0.out _).mono ?_; rintro e u1 ⟨rfl, hbu1⟩; have hRu1 := Lib.hid (below_call HR.drew hbu1)))
        have hb := hRu2.out
        clear HR hRu1 hbu1 hRu2 hbu2 gx11
        have Hx' := Lib.hid (bblock hb Hx.out); clear Hx; have Hx := Hx'; clear Hx'
        have HB' := below_call HB hb; clear HB hb; have HB := HB'; clear HB'; have hz := HB.size
        go_wp2_with fail
        go_roundw
        case rel => exact ⟨k + 1, by omega, by go_num, by rw [hsn.out, ba_append, ba_append], Hx.out, HB⟩
        case measure => simp [intOf]; omega
      · obtain rfl : k = n := by omega
        have hfin : Hid (P0 ++ blBytes (bl.take k) ++ s.data.toList = sb fp tp sq ack syn fin rst ha win mss sacks bl s sum) := Lib.hid (by
          rw [List.take_of_length_le (by rw [HL.out]; exact Nat.le_refl _), HP.out, ← HE0.out, ← HE1.out, ← HE2.out, ← HE3.out, ← HE4.out, ← HE5.out, ← HE6.out, ← HE7.out, ← HE8.out, ← HFG.out]
          unfold sb sbytes
          rw [HL.out]
          simp [bes])
        have s1 : ¬ 9223372036854775807 < (P0 ++ blBytes (bl.take k)).length + s.size := by omega
        generalize P0 ++ blBytes (bl.take k) = T at *
        have qx11 := (cell_of_block (k := 11) Hx.out rfl).1; have zx11 := (cell_of_block (k := 11) Hx.out rfl).2
        have qx12 := (cell_of_block (k := 12) Hx.out rfl).1; have zx12 := (cell_of_block (k := 12) Hx.out rfl).2
        have lt_x := blk_lt Hx.out
        go_wp2_with fail
        go_ret
        exact ⟨ret_str (by rw [← hfin.out, ← ba_append, ← ba_self]), HB⟩
end Go.Proofs.Ytkinlmanimdlcaa.Sg
