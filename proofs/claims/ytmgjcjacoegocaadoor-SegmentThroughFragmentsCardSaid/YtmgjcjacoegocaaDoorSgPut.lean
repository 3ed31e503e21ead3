/-
  Contracts of segment.put, flags and flagByte.
-/
import Derived.Test.YtmgjcjacoegocaaDoorSgValid2
import Derived.Test.YtmgjcjacoegocaaDoorBase2
namespace Go.Proofs.YtmgjcjacoegocaaDoor.Sg
set_option maxRecDepth 100000
open Go.RowKit Go.Proofs.YtmgjcjacoegocaaDoor.Wire

/-- numbers, each in b bytes, one behind the other -/
def bes (b : Nat) (l : List Int) : List UInt8 := l.flatMap (be b)
theorem bes_length (b : Nat) (l : List Int) : (bes b l).length = l.length * b := by
  unfold bes
  induction l with
  | nil => simp
  | cons a l ih => simp [be_length, ih, Nat.add_mul]; omega
theorem bes_snoc (b : Nat) (l : List Int) (x : Int) : bes b (l ++ [x]) = bes b l ++ be b x := by simp [bes]
theorem take_succ_get {l : List Int} {k : Nat} {x : Int} (h : l[k]? = some x) : l.take (k + 1) = l.take k ++ [x] := by
  rw [List.take_add_one, h]; rfl

set_option maxRecDepth 100000 in
set_option maxHeartbeats 4000000 in
theorem put_any (b : Int) (g n cap : Nat) (ns : List Int) (w : World) (hb1 : 1 ≤ b) (hb4 : b ≤ 4) (hn : ns.length = n) (hn2 : n ≤ 1000) (hr : ∀ x ∈ ns, 0 ≤ x ∧ x < 256 ^ b.toNat) (hg : w.heap[g]? = some (.cells (ns.map (Value.int .i64)).toArray 3 (0, 0))) :
    Calls Tryd.prog 31 #[.int .i64 b, .slice (some ⟨g, 0, none⟩) n cap] w fun e w' => e = .returned (.string ⟨(bes b.toNat ns).toArray⟩) ∧ Below w.heap.size w w' := by
  have HG := Lib.hid hg; clear hg
  have HN := Lib.hid hn; clear hn
  have HR := Lib.hid hr; clear hr
  have hgl := blk_lt HG.out
  go_enter Tryd.func31, Tryd.ntmps31
  go_wp2_with fail
  have HB2 := below_alloc (o := .cells #[.pointer none, .slice none 0 0] 144) (Below.refl w.heap.size w)
  go_loopw [12] (fun i wr => ∃ k : Nat, k ≤ n ∧ i = .int .i64 (k : Int) ∧ IsB w.heap.size w.heap.size (bes b.toNat (ns.take k)) wr ∧ Below w.heap.size w wr) (fun i _ => n - (intOf i).toNat)
  case atStart => exact ⟨0, by omega, rfl, isB_new w, HB2⟩
  case round =>
    clear HB2
    obtain ⟨k, hk, rfl, HI, HB⟩ := hrel
    have HI := Lib.hid HI
    have hlen : (bes b.toNat (ns.take k)).length ≤ 4000 := by
      rw [bes_length, List.length_take]
      have h1 : min k ns.length ≤ 1000 := by have := HN.out; omega
      have h2 : b.toNat ≤ 4 := by omega
      calc min k ns.length * b.toNat ≤ 1000 * 4 := Nat.mul_le_mul h1 h2
        _ = 4000 := rfl
    by_cases hlt : k < n
    · have hkl : k < ns.length := by rw [HN.out]; exact hlt
      have HX : Hid (ns[k]? = some ns[k]) := Lib.hid (List.getElem?_eq_getElem hkl)
      have hr0 := HR.out ns[k] (List.getElem_mem hkl)
      have c0 : w.cell? ⟨g, k, none⟩ = some (.int .i64 ns[k]) := (cell_of_block HG.out (by simp [hkl])).1
      generalize ns[k] = x at *
      have HT := Lib.hid (take_succ_get HX.out)
      obtain ⟨hx0, hx1⟩ := hr0
      have HX1 := Lib.hid hx1; clear hx1 hkl
      generalize ns.take k = L at *
      have d0 := (HB.cell (p := ⟨g, k, none⟩) hgl).trans c0
      clear c0
      go_wp2_with fail
      clear d0
      refine (put_okI x b _ hb1 hb4 hx0 HX1.out).mono ?_
      rintro e w3 ⟨rfl, hb⟩
      have HI' := isB_below HI.out hb; have HB' := below_call HB hb; clear HI HB hb
      have HI := Lib.hid HI'; clear HI'
      go_wp2_with fail
      have hbl := be_length b.toNat x
      refine (bwrite_any _ _ (bes b.toNat L) _ _ HI.out (by rw [sz, hbl]; omega)).mono ?_
      rintro e w4 ⟨rfl, HJ, hb⟩
      have HJ := Lib.hid HJ; have HB := HB'.trans hb; clear HB' hb HI hbl
      go_wp2_with fail
      go_roundw
      case rel => exact ⟨k + 1, by omega, by go_num, by rw [HT.out, bes_snoc]; exact HJ.out, HB⟩
      case measure => simp [intOf]; omega
    · have hkn : k = n := by omega
      have HF : Hid (ns.take k = ns) := Lib.hid (List.take_of_length_le (by rw [HN.out]; omega))
      generalize ns.take k = L at *
      go_wp2_with fail
      refine (bstring_any _ _ (bes b.toNat L) _ HI.out).mono ?_
      rintro e w3 ⟨rfl, hb⟩
      go_wp2_with fail
      go_ret
      exact ⟨ret_str (by rw [HF.out]), HB.trans hb⟩

set_option maxHeartbeats 1000000 in
theorem flags_any (fp tp sq ack : Int) (syn fin rst ha : Bool) (win mss : Int) (sacks : Bool) (A : Option Addr) (n c : Nat) (s : ByteArray) (w : World) :
    Calls Tryd.prog 64 #[.agg #[.int .i64 fp, .int .i64 tp, .int .i64 sq, .int .i64 ack, .bool syn, .bool fin, .bool rst, .bool ha, .int .i64 win, .int .i64 mss, .bool sacks, .slice A n c, .string s]] w fun e w' => e = .returned (.agg #[.bool syn, .bool fin, .bool rst, .bool ha, .bool sacks]) ∧ Below w.heap.size w w' := by
  go_enter Tryd.func64, Tryd.ntmps64
  go_wp2
  refine bodyPost_ret (res_cell1 (P := Tryd.prog) (fn := Tryd.f64) (p := 2) (ty := 139) rfl (g := w.heap.size + 1) (t := 139) (cs := #[.bool syn, .bool fin, .bool rst, .bool ha, .bool sacks]) (fr := (0, 0)) (alloc_new' _ _ _ (by simp)) rfl Tryd.underlying139 rfl (by kernel_rfl)) rfl ?_
  exact ⟨rfl, ((Below.refl _ _).alloc (Nat.le_refl _) _).alloc (by simp) _⟩

def fb (b : Bool) (v : Int) : Int := if b then v else 0
def fsum (a b c d e : Bool) : Nat → Int
  | 0 => 0
  | 1 => fb a 1
  | 2 => fb a 1 + fb b 2
  | 3 => fb a 1 + fb b 2 + fb c 4
  | 4 => fb a 1 + fb b 2 + fb c 4 + fb d 8
  | _ => fb a 1 + fb b 2 + fb c 4 + fb d 8 + fb e 16
theorem fsum_bd (a b c d e : Bool) (k : Nat) : 0 ≤ fsum a b c d e k ∧ fsum a b c d e k ≤ 31 := by
  match k with
  | 0 => simp [fsum]
  | 1 => cases a <;> simp [fsum, fb]
  | 2 => cases a <;> cases b <;> simp [fsum, fb]
  | 3 => cases a <;> cases b <;> cases c <;> simp [fsum, fb]
  | 4 => cases a <;> cases b <;> cases c <;> cases d <;> simp [fsum, fb]
  | k + 5 => cases a <;> cases b <;> cases c <;> cases d <;> cases e <;> simp [fsum, fb]
/-- the byte of the flags -/
def flagsOf (syn fin rst ha sacks : Bool) : Int := fsum syn fin rst ha sacks 5

set_option maxRecDepth 100000 in
set_option maxHeartbeats 4000000 in
theorem flagByte_any (fp tp sq ack : Int) (syn fin rst ha : Bool) (win mss : Int) (sacks : Bool) (A : Option Addr) (n c : Nat) (s : ByteArray) (w : World) :
    Calls Tryd.prog 67 #[.agg #[.int .i64 fp, .int .i64 tp, .int .i64 sq, .int .i64 ack, .bool syn, .bool fin, .bool rst, .bool ha, .int .i64 win, .int .i64 mss, .bool sacks, .slice A n c, .string s]] w fun e w' => e = .returned (.int .i64 (flagsOf syn fin rst ha sacks)) ∧ Below w.heap.size w w' := by
  have i0 : ∀ w, (Instr.index 139 (.agg #[.bool syn, .bool fin, .bool rst, .bool ha, .bool sacks]) (.int .i64 0)).run Tryd.prog w = .ok (.bool syn) w := fun _ => by kernel_rfl
  have i1 : ∀ w, (Instr.index 139 (.agg #[.bool syn, .bool fin, .bool rst, .bool ha, .bool sacks]) (.int .i64 1)).run Tryd.prog w = .ok (.bool fin) w := fun _ => by kernel_rfl
  have i2 : ∀ w, (Instr.index 139 (.agg #[.bool syn, .bool fin, .bool rst, .bool ha, .bool sacks]) (.int .i64 2)).run Tryd.prog w = .ok (.bool rst) w := fun _ => by kernel_rfl
  have i3 : ∀ w, (Instr.index 139 (.agg #[.bool syn, .bool fin, .bool rst, .bool ha, .bool sacks]) (.int .i64 3)).run Tryd.prog w = .ok (.bool ha) w := fun _ => by kernel_rfl
  have i4 : ∀ w, (Instr.index 139 (.agg #[.bool syn, .bool fin, .bool rst, .bool ha, .bool sacks]) (.int .i64 4)).run Tryd.prog w = .ok (.bool sacks) w := fun _ => by kernel_rfl
  have H1 := Lib.hid fun w => flags_any fp tp sq ack syn fin rst ha win mss sacks A n c s w
  have Hx := Lib.hid (alloc_new w (.cells #[.int .i64 fp, .int .i64 tp, .int .i64 sq, .int .i64 ack, .bool syn, .bool fin, .bool rst, .bool ha, .int .i64 win, .int .i64 mss, .bool sacks, .slice A n c, .string s] 24))
  have HB := below_alloc (o := .cells #[.int .i64 fp, .int .i64 tp, .int .i64 sq, .int .i64 ack, .bool syn, .bool fin, .bool rst, .bool ha, .int .i64 win, .int .i64 mss, .bool sacks, .slice A n c, .string s] 24) (Below.refl w.heap.size w)
  have Ha := Lib.hid (alloc_new' (w.alloc (.cells #[.int .i64 fp, .int .i64 tp, .int .i64 sq, .int .i64 ack, .bool syn, .bool fin, .bool rst, .bool ha, .int .i64 win, .int .i64 mss, .bool sacks, .slice A n c, .string s] 24)) (.cells #[.int .i64 1, .int .i64 2, .int .i64 4, .int .i64 8, .int .i64 16] 118) (w.heap.size + 1) (by simp))
  go_enter Tryd.func67, Tryd.ntmps67
  go_wp2_with fail
  refine (H1.out _).mono ?_
  rintro e w1 ⟨rfl, hb⟩
  have HB1 := below_alloc (o := .cells #[.int .i64 1, .int .i64 2, .int .i64 4, .int .i64 8, .int .i64 16] 118) HB; clear HB; have HB := HB1; clear HB1
  clear Hx
  have Ha' := Lib.hid (bblock hb Ha.out); clear Ha; have Ha := Ha'; clear Ha'
  have HB' := below_call HB hb; clear HB hb; have HB := HB'; clear HB'; have hz := HB.size
  go_wp2_with fail
  go_loopw [4, 10] (fun t i wr => ∃ k : Nat, k ≤ 5 ∧ i = .int .i64 (k : Int) ∧ t = .int .i64 (fsum syn fin rst ha sacks k) ∧ wr.heap[w.heap.size + 1]? = some (.cells #[.int .i64 1, .int .i64 2, .int .i64 4, .int .i64 8, .int .i64 16] 118) ∧ Below w.heap.size w wr) (fun _ i _ => 5 - (intOf i).toNat)
  case atStart => exact ⟨0, by omega, rfl, rfl, Ha.out, HB⟩
  case round =>
    clear HB Ha
    obtain ⟨k, hk, rfl, rfl, hA, HB⟩ := hrel
    have HA := Lib.hid hA
    have hz := HB.size
    have qa0 := (cell_of_block (k := 0) hA rfl).1; have qa1 := (cell_of_block (k := 1) hA rfl).1; have qa2 := (cell_of_block (k := 2) hA rfl).1; have qa3 := (cell_of_block (k := 3) hA rfl).1; have qa4 := (cell_of_block (k := 4) hA rfl).1
    clear hA
    have hbd := fsum_bd syn fin rst ha sacks k
    by_cases hlt : k < 5
    · have hcase : k = 0 ∨ k = 1 ∨ k = 2 ∨ k = 3 ∨ k = 4 := by omega
      rcases hcase with rfl | rfl | rfl | rfl | rfl
      · cases syn
        all_goals
          go_wp2_with fail
          go_roundw
          case rel => exact ⟨1, by omega, by go_num, by simp [fsum, fb], HA.out, HB⟩
          case measure => simp [intOf]
      · cases fin
        all_goals
          go_wp2_with fail
          go_roundw
          case rel => exact ⟨2, by omega, by go_num, by simp [fsum, fb], HA.out, HB⟩
          case measure => simp [intOf]
      · cases rst
        all_goals
          go_wp2_with fail
          go_roundw
          case rel => exact ⟨3, by omega, by go_num, by simp [fsum, fb], HA.out, HB⟩
          case measure => simp [intOf]
      · cases ha
        all_goals
          go_wp2_with fail
          go_roundw
          case rel => exact ⟨4, by omega, by go_num, by simp [fsum, fb], HA.out, HB⟩
          case measure => simp [intOf]
      · cases sacks
        all_goals
          go_wp2_with fail
          go_roundw
          case rel => exact ⟨5, by omega, by go_num, by simp [fsum, fb], HA.out, HB⟩
          case measure => simp [intOf]
    · obtain rfl : k = 5 := by omega
      go_wp2_with fail
      go_ret
      exact ⟨rfl, HB⟩
end Go.Proofs.YtmgjcjacoegocaaDoor.Sg
