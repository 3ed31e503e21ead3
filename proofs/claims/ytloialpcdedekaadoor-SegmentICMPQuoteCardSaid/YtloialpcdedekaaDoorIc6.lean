/-
  The iterator of icmp's reader: at each yield its reader stands behind the field.
-/
import Derived.Test.YtloialpcdedekaaDoorIc5
import Derived.Test.YtloialpcdedekaaDoorRange
import Derived.OwnWalkIn
import Derived.TacticsInMore
import Derived.LoopNIn
import Derived.LoopIn
import Derived.Shelf.Abstract
import Derived.Shelf.RegionOpen
import Derived.Stop.RegionWithIn
namespace Go.Proofs.YtloialpcdedekaaDoor.Ic
set_option maxRecDepth 100000
open Go.RowKit Go.Proofs.YtloialpcdedekaaDoor.Wire Go.Shelf
attribute [local go_sem] Oper.semAt_some

def wid : Nat → Int | 0 => 1 | 1 => 1 | 2 => 2 | _ => 4
def ofs : Nat → Int | 0 => 0 | 1 => 1 | 2 => 2 | 3 => 4 | _ => 8
theorem ofs_succ (i : Nat) (h : i < 4) : ofs (i + 1) = ofs i + wid i := by
  match i, h with
  | 0, _ => rfl
  | 1, _ => rfl
  | 2, _ => rfl
  | 3, _ => rfl
theorem ofs_bd (i : Nat) : 0 ≤ ofs i ∧ ofs i ≤ 8 := by
  match i with
  | 0 => simp [ofs]
  | 1 => simp [ofs]
  | 2 => simp [ofs]
  | 3 => simp [ofs]
  | i + 4 => simp [ofs]
theorem wid_bd (i : Nat) : 1 ≤ wid i ∧ wid i ≤ 4 := by
  match i with
  | 0 => simp [wid]
  | 1 => simp [wid]
  | 2 => simp [wid]
  | i + 3 => simp [wid]
def fval (s : ByteArray) (i : Nat) : Int := num (bytesAt s (ofs i).toNat (wid i).toNat)
/-- the reader's memory; the reader at an offset, with an error -/
structure RSt (s : ByteArray) (a0 a1 : Addr) (Bw g Bp R : Nat) (at_ : Int) (er : Value) (W : World) : Prop where
  bw : W.heap[Bw]? = some (.cells #[.slice (some ⟨g, 0, none⟩) 4 4] 87 (0, 0))
  gw : W.heap[g]? = some (.cells #[.int .i64 1, .int .i64 1, .int .i64 2, .int .i64 4] 3 (0, 0))
  bp : W.heap[Bp]? = some (.cells #[.pointer (some ⟨R, 0, none⟩)] 98 (0, 0))
  rd : W.heap[R]? = some (.cells #[.string s, .int .i64 at_, er] 101 (0, 0))
  gl : Gl W a0 a1
theorem RSt.below {s a0 a1 Bw g Bp R at_ er W W'} (h : RSt s a0 a1 Bw g Bp R at_ er W) (hb : Below W.heap.size W W') : RSt s a0 a1 Bw g Bp R at_ er W' := ⟨bblock hb h.bw, bblock hb h.gw, bblock hb h.bp, bblock hb h.rd, h.gl.below hb⟩
theorem RSt.set {s a0 a1 Bw g Bp R at_ W} (h : RSt s a0 a1 Bw g Bp R at_ .nilIface W) (hd : R ≠ Bw ∧ R ≠ g ∧ R ≠ Bp ∧ 2 ≤ R) (v : Int) : RSt s a0 a1 Bw g Bp R v .nilIface (W.setCell ⟨R, 1, none⟩ (.int .i64 v)) :=
  ⟨block_set_other h.bw hd.1, block_set_other h.gw hd.2.1, block_set_other h.bp hd.2.2.1, cells_eq (block_setCell h.rd) rfl, cell_set_other h.gl.1 (by show R ≠ _; omega), cell_set_other h.gl.2 (by show R ≠ _; omega)⟩
theorem RSt.fail {s a0 a1 Bw g Bp R at_ W} (h : RSt s a0 a1 Bw g Bp R at_ .nilIface W) (hd : R ≠ Bw ∧ R ≠ g ∧ R ≠ Bp ∧ 2 ≤ R) (v : Value) : RSt s a0 a1 Bw g Bp R at_ v (W.setCell ⟨R, 2, none⟩ v) :=
  ⟨block_set_other h.bw hd.1, block_set_other h.gw hd.2.1, block_set_other h.bp hd.2.2.1, cells_eq (block_setCell h.rd) rfl, cell_set_other h.gl.1 (by show R ≠ _; omega), cell_set_other h.gl.2 (by show R ≠ _; omega)⟩
theorem errNe (v : Value) (w : World) : (binOp .neq 64 (.iface 136 v) .nilIface).run Tryd.prog w = .ok (.bool true) w := by kernel_rfl
set_option maxHeartbeats 2000000 in
theorem fields1_wide (n : Nat) (hn : 1 ≤ n) (s : ByteArray) (hm : s.size ≤ 9223372036854775807) (a0 a1 : Addr) (Bw g Bp R l : Nat) (r : Loop) (hR : R < l) (hd : R ≠ Bw ∧ R ≠ g ∧ R ≠ Bp ∧ 2 ≤ R)
    (X : Nat → World → Prop) (Xx : Code → World → Prop) (hX : ∀ i W W', X i W → Below W.heap.size W W' → X i W') (hXs : ∀ i W o v, X i W → X i (W.setCell ⟨R, o, none⟩ v))
    (hY : ∀ i W1, i < 4 → ofs (i + 1) ≤ (s.size : Int) → RSt s a0 a1 Bw g Bp R (ofs (i + 1)) .nilIface W1 → X i W1 → LoopK l r W1 → YieldAt Fence.wide (n - 1) Tryd.prog (l + 1) #[.int .i64 (i : Int), .int .i64 (fval s i)] W1 fun e W' =>
      (e = .returned (.bool true) ∧ (RSt s a0 a1 Bw g Bp R (ofs (i + 1)) .nilIface W' ∧ X (i + 1) W') ∧ LoopK l r W') ∨ (e = .returned (.bool false) ∧ ∃ c, Xx c W' ∧ LoopK l { r with state := .done, pending := some c } W'))
    (W : World) (h0 : RSt s a0 a1 Bw g Bp R 0 .nilIface W) (hx : X 0 W) (hk : LoopK l r W) :
    CallsIn Fence.wide n Tryd.prog 61 #[.func (.yield (l + 1)) #[] #[], .pointer (some ⟨Bw, 0, none⟩), .pointer (some ⟨Bp, 0, none⟩)] W fun e W' => (∃ v, e = .returned v) ∧
      (((∃ i er, X i W' ∧ RSt s a0 a1 Bw g Bp R (ofs i) er W' ∧ ((i = 4 ∧ er = .nilIface) ∨ (i < 4 ∧ (s.size : Int) < ofs (i + 1) ∧ er = errV a0))) ∧ LoopK l r W') ∨ ∃ c, Xx c W' ∧ LoopK l { r with state := .done, pending := some c } W') := by
  refine callsIn_of_wp Tryd.func61 rfl trivial ?_ rfl
  simp only [Tryd.ntmps61, List.size_toArray, List.length_cons, List.length_nil, Nat.reduceAdd, Nat.reduceSub, Array.replicate_succ, Array.replicate_zero, List.push_toArray, List.append_toArray, List.nil_append, List.cons_append]
  have q0 := (cell_of_block (k := 0) h0.bw rfl).1
  gi_wp2
  clear q0
  gi_loopw [10] (fun i wr => ∃ k : Nat, k ≤ 4 ∧ i = .int .i64 (k : Int) ∧ RSt s a0 a1 Bw g Bp R (ofs k) .nilIface wr ∧ X k wr ∧ LoopK l r wr) (fun i wr => 4 - (intOf i).toNat)
  case atStart => exact ⟨0, by omega, rfl, h0, hx, hk⟩
  case round =>
    clear h0 hx hk
    obtain ⟨k, hk4, rfl, hS, hXk, hL⟩ := hrel
    by_cases hlt : k < 4
    · have hkl : decide ((k : Int) < 4) = true := by simp; omega
      have hk0 : (0 : Int) ≤ (k : Int) := by omega
      have cw : wr.cell? ⟨g, k, none⟩ = some (.int .i64 (wid k)) := by
        match k, hlt with
        | 0, _ => exact (cell_of_block hS.gw rfl).1
        | 1, _ => exact (cell_of_block hS.gw rfl).1
        | 2, _ => exact (cell_of_block hS.gw rfl).1
        | 3, _ => exact (cell_of_block hS.gw rfl).1
      have cp := (cell_of_block (k := 0) hS.bp rfl).1
      have c0 := (cell_of_block (k := 0) hS.rd rfl).1
      have c1 := (cell_of_block (k := 1) hS.rd rfl).1
      have HS := Lib.hid hS; have HL := Lib.hid hL; clear hS hL
      have hob := ofs_bd k; have hwb := wid_bd k
      have hsc := ofs_succ k hlt
      by_cases hfit : (s.size : Int) < ofs (k + 1)
      · have HN := Lib.hid fun W' (hb : Below wr.heap.size wr W') => number_no s (ofs k) (wid k) W' a0 a1 (HS.out.gl.below hb) hm (by omega)
        gi_wp2
        refine wpIn_wide.2 ?_
        go_region_held3 (fun w' => w'.cell? ⟨Bp, 0, none⟩ = some (.pointer (some ⟨R, 0, none⟩)) ∧ w'.cell? ⟨R, 0, none⟩ = some (.string s) ∧ w'.cell? ⟨R, 1, none⟩ = some (.int .i64 (ofs k))) (first | exact ⟨cp, c0, c1⟩ | (go_split_ands; exact ⟨bcell hb cp, bcell hb c0, bcell hb c1⟩))
          ((go_at_call 62; refine (HN.out _ (Below.refl wr.heap.size wr).drew).mono ?_; rintro e w3 ⟨rfl, hb⟩))
        have hev : errV a0 = .iface 136 (.pointer (some a0)) := rfl
        have hnq := errNe (.pointer (some a0))
        have hb : Below wr.heap.size wr w3 := ⟨hb.os, hb.tape, hb.output, hb.size, hb.block⟩
        have S3 := Lib.hid (HS.out.below hb); have L3 := Lib.hid (HL.out.below hb); have X3 := Lib.hid (hX k _ _ hXk hb)
        have d0 := (cell_of_block (k := 0) S3.out.bp rfl).1
        have d2 := (cell_of_block (k := 2) S3.out.rd rfl).1
        have z2 := (cell_of_block (k := 2) S3.out.rd rfl).2
        gi_wp2
        refine bodyPost_ret (results_none rfl _ _ _) rfl ?_
        exact ⟨⟨_, rfl⟩, .inl ⟨⟨k, errV a0, hXs k _ _ _ X3.out, S3.out.fail hd _, .inr ⟨hlt, hfit, rfl⟩⟩, L3.out.set hR _⟩⟩
      · have HN := Lib.hid fun W' => number_yes s (ofs k) (wid k) W' hwb.1 hwb.2 hob.1 (by omega) hm
        gi_wp2
        refine wpIn_wide.2 ?_
        go_region_held3 (fun w' => w'.cell? ⟨Bp, 0, none⟩ = some (.pointer (some ⟨R, 0, none⟩)) ∧ w'.cell? ⟨R, 0, none⟩ = some (.string s) ∧ w'.cell? ⟨R, 1, none⟩ = some (.int .i64 (ofs k))) (first | exact ⟨cp, c0, c1⟩ | (go_split_ands; exact ⟨bcell hb cp, bcell hb c0, bcell hb c1⟩))
          ((go_at_call 62; refine (HN.out _).mono ?_; rintro e w3 ⟨rfl, hb⟩))
        have hb : Below wr.heap.size wr w3 := ⟨hb.os, hb.tape, hb.output, hb.size, hb.block⟩
        have S3 := Lib.hid (HS.out.below hb); have L3 := Lib.hid (HL.out.below hb); have X3 := Lib.hid (hX k _ _ hXk hb)
        have d0 := (cell_of_block (k := 0) S3.out.bp rfl).1
        have d1 := (cell_of_block (k := 1) S3.out.rd rfl).1
        have z1 := (cell_of_block (k := 1) S3.out.rd rfl).2
        obtain ⟨fn, tmps, assign, body, hy, hRn⟩ := hY k (w3.setCell ⟨R, 1, none⟩ (.int .i64 (ofs k + wid k))) hlt (by omega) (by rw [hsc]; exact S3.out.set hd _) (hXs k _ _ _ X3.out) (L3.out.set hR _)
        unfold fval at hy
        have HSC := Lib.hid hsc; clear hsc
        gi_wp2
        refine hRn.mono ?_
        rintro e W' (⟨rfl, ⟨hS', hX'⟩, hL'⟩ | ⟨rfl, c, hx', hk'⟩)
        · gi_wp2
          go_roundw
          case rel => exact ⟨k + 1, by omega, by go_num, hS', hX', hL'⟩
          case measure => simp [intOf]; omega
        · gi_wp2
          refine bodyPost_ret (results_none rfl _ _ _) rfl ?_
          exact ⟨⟨_, rfl⟩, .inr ⟨c, hx', hk'⟩⟩
    · obtain rfl : k = 4 := by omega
      gi_wp2
      go_end0
      exact ⟨⟨_, rfl⟩, .inl ⟨⟨4, .nilIface, hXk, hS, .inl ⟨rfl, rfl⟩⟩, hL⟩⟩
end Go.Proofs.YtloialpcdedekaaDoor.Ic
