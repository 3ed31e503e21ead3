/-
  The contract of link.Decode, at strings that hold the fixed fields.
-/
import Derived.Test.YtpiohahfdekmhaaDoorLkRd
import Derived.WalkMore
import Derived.Deep.DeepCutAuto
import Derived.Outline
import Derived.Deep.RegionHeld3
import Derived.Deep.QuietTactic
namespace Go.Proofs.YtpiohahfdekmhaaDoor.Lk
set_option maxRecDepth 100000
open Go.RowKit Go.Proofs.YtpiohahfdekmhaaDoor.Wire Go.Shelf
attribute [local go_sem] Oper.semAt_some

/-- the fields that have been read so far -/
def fcells (l : List UInt8) : Nat → Array Value
  | 0 => #[.int .i64 0, .int .i64 0, .int .i64 0, .int .i64 0]
  | 1 => #[.int .i64 (fval l 0), .int .i64 0, .int .i64 0, .int .i64 0]
  | 2 => #[.int .i64 (fval l 0), .int .i64 (fval l 1), .int .i64 0, .int .i64 0]
  | 3 => #[.int .i64 (fval l 0), .int .i64 (fval l 1), .int .i64 (fval l 2), .int .i64 0]
  | _ => #[.int .i64 (fval l 0), .int .i64 (fval l 1), .int .i64 (fval l 2), .int .i64 (fval l 3)]
structure XDc (w : World) (s : ByteArray) (a0 : Addr) (i : Nat) (W : World) : Prop where
  a2 : W.heap[w.heap.size]? = some (.cells #[.int .i64 0, .int .i64 0, .int .i64 0, .string ⟨#[]⟩] 33 (0, 0))
  a4 : W.heap[w.heap.size + 1]? = some (.cells #[.string s] 56 (0, 0))
  a5 : W.heap[w.heap.size + 1 + 1]? = some (.cells (fcells s.data.toList i) 57 (0, 0))
  a6 : W.heap[w.heap.size + 1 + 1 + 1]? = some (.cells #[.int .i64 (i : Int)] 3 (0, 0))
  rd : W.heap[w.heap.size + 1 + 1 + 1 + 1]? = some (rdC s)
  gl : Gl W a0
  below : Below w.heap.size w W
theorem XDc.down {w s a0 i W W'} (h : XDc w s a0 i W) (hb : Below W.heap.size W W') : XDc w s a0 i W' := ⟨bblock hb h.a2, bblock hb h.a4, bblock hb h.a5, bblock hb h.a6, bblock hb h.rd, h.gl.below hb, below_call h.below hb⟩
theorem XDc.step {w s a0 i W} (h : XDc w s a0 i W) (j : Nat) (_ : j = i + 1) (v : Value) (e : (fcells s.data.toList i).setIfInBounds i v = fcells s.data.toList j) :
    XDc w s a0 j ((W.setCell ⟨w.heap.size + 1 + 1, i, none⟩ v).setCell ⟨w.heap.size + 1 + 1 + 1, 0, none⟩ (.int .i64 (j : Int))) := by
  have hg := h.gl
  exact ⟨block_set_other (block_set_other h.a2 (by first | (simp; done) | (simp; omega))) (by first | (simp; done) | (simp; omega)), block_set_other (block_set_other h.a4 (by first | (simp; done) | (simp; omega))) (by first | (simp; done) | (simp; omega)), block_set_other (cells_eq (block_setCell h.a5) e) (by simp), cells_eq (block_setCell (k := 0) (block_set_other h.a6 (by simp))) rfl, block_set_other (block_set_other h.rd (by simp)) (by simp), cell_set_other (cell_set_other hg (by simp)) (by simp), Below.setCell (Below.setCell h.below (by simp; omega) _) (by simp; omega) _⟩
theorem XDc.put {w s a0 i W} (h : XDc w s a0 i W) {l : Nat} (hl : w.heap.size + 5 ≤ l) (hw : 1 ≤ w.heap.size) (o : Obj) : XDc w s a0 i (W.putObj l o) :=
  ⟨(World.putObj_heap_other (by omega)).trans h.a2, (World.putObj_heap_other (by omega)).trans h.a4, (World.putObj_heap_other (by omega)).trans h.a5, (World.putObj_heap_other (by omega)).trans h.a6, (World.putObj_heap_other (by omega)).trans h.rd, by
    have q : ∀ k, k < 1 → (W.putObj l o).heap[k]? = W.heap[k]? := fun k hk => World.putObj_heap_other (by omega)
    have := h.gl; unfold Gl World.cell? at this ⊢; rw [q _ (by decide)]; exact this, ⟨h.below.os, h.below.tape, h.below.output, by simpa [World.putObj] using h.below.size, fun k hk => (World.putObj_heap_other (by omega)).trans (h.below.block k hk)⟩⟩
theorem below_put {B : Nat} {w W : World} (h : Below B w W) {l : Nat} (hl : B ≤ l) (o : Obj) : Below B w (W.putObj l o) :=
  ⟨h.os, h.tape, h.output, by simpa [World.putObj] using h.size, fun k hk => (World.putObj_heap_other (by omega)).trans (h.block k hk)⟩
theorem keeps_below {W W' : World} (h : Below W.heap.size W W') : KeepsOthers W W' := ⟨h.size, fun _ _ hk _ => bblock h hk⟩
def dcVal (l : List UInt8) : Value := .agg #[.int .i64 (fval l 0), .int .i64 (fval l 1), .int .i64 (fval l 2), .string ⟨((l.drop 7).take (fval l 3).toNat).toArray⟩]
def DcPost (s : ByteArray) (w : World) (e : Ending) (w' : World) : Prop := Below w.heap.size w w' ∧
  ((Dk s.data.toList ∧ e = .returned (.tuple #[dcVal s.data.toList, .int .i64 0])) ∨ (¬ Dk s.data.toList ∧ e = .returned (.tuple #[.agg #[.int .i64 0, .int .i64 0, .int .i64 0, .string ⟨#[]⟩], .int .i64 40])))
set_option maxHeartbeats 4000000 in
theorem decode_any (s : ByteArray) (h7 : 7 ≤ s.size) (hm : s.size ≤ 9223372036854775807) (a0 : Addr) (w : World) (hg : Gl w a0) (hw : 1 ≤ w.heap.size) :
    Calls Tryd.prog 9 #[.string s] w (DcPost s w) := by
  have H2 := alloc_new' w (.cells #[.int .i64 0, .int .i64 0, .int .i64 0, .string ⟨#[]⟩] 33) (w.heap.size) rfl
  have H4 := alloc_new' (World.alloc w (.cells #[.int .i64 0, .int .i64 0, .int .i64 0, .string ⟨#[]⟩] 33)) (.cells #[.string s] 56) (w.heap.size + 1) (by simp)
  have H2 := block_alloc H2 (.cells #[.string s] 56)
  have H5 := alloc_new' (World.alloc (World.alloc w (.cells #[.int .i64 0, .int .i64 0, .int .i64 0, .string ⟨#[]⟩] 33)) (.cells #[.string s] 56)) (.cells #[.int .i64 0, .int .i64 0, .int .i64 0, .int .i64 0] 57) (w.heap.size + 1 + 1) (by simp)
  have H2 := block_alloc H2 (.cells #[.int .i64 0, .int .i64 0, .int .i64 0, .int .i64 0] 57)
  have H4 := block_alloc H4 (.cells #[.int .i64 0, .int .i64 0, .int .i64 0, .int .i64 0] 57)
  have H6 := alloc_new' (World.alloc (World.alloc (World.alloc w (.cells #[.int .i64 0, .int .i64 0, .int .i64 0, .string ⟨#[]⟩] 33)) (.cells #[.string s] 56)) (.cells #[.int .i64 0, .int .i64 0, .int .i64 0, .int .i64 0] 57)) (.cells #[.int .i64 0] 3) (w.heap.size + 1 + 1 + 1) (by simp)
  have H2 := block_alloc H2 (.cells #[.int .i64 0] 3)
  have H4 := block_alloc H4 (.cells #[.int .i64 0] 3)
  have H5 := block_alloc H5 (.cells #[.int .i64 0] 3)
  have HR := alloc_new' (World.alloc (World.alloc (World.alloc (World.alloc w (.cells #[.int .i64 0, .int .i64 0, .int .i64 0, .string ⟨#[]⟩] 33)) (.cells #[.string s] 56)) (.cells #[.int .i64 0, .int .i64 0, .int .i64 0, .int .i64 0] 57)) (.cells #[.int .i64 0] 3)) (rdC s) (w.heap.size + 1 + 1 + 1 + 1) (by simp)
  have H2 := block_alloc H2 (rdC s)
  have H4 := block_alloc H4 (rdC s)
  have H5 := block_alloc H5 (rdC s)
  have H6 := block_alloc H6 (rdC s)
  have HB := below_alloc (o := rdC s) (below_alloc (o := .cells #[.int .i64 0] 3) (below_alloc (o := .cells #[.int .i64 0, .int .i64 0, .int .i64 0, .int .i64 0] 57) (below_alloc (o := .cells #[.string s] 56) (below_alloc (o := .cells #[.int .i64 0, .int .i64 0, .int .i64 0, .string ⟨#[]⟩] 33) (Below.refl w.heap.size w)))))
  have HX0 : Hid (XDc w s a0 0 (World.alloc (World.alloc (World.alloc (World.alloc (World.alloc w (.cells #[.int .i64 0, .int .i64 0, .int .i64 0, .string ⟨#[]⟩] 33)) (.cells #[.string s] 56)) (.cells #[.int .i64 0, .int .i64 0, .int .i64 0, .int .i64 0] 57)) (.cells #[.int .i64 0] 3)) (rdC s))) := Lib.hid ⟨H2, H4, H5, H6, HR, hg.below HB, HB⟩
  have HSZ := Lib.hid (show (World.alloc (World.alloc (World.alloc (World.alloc (World.alloc w (.cells #[.int .i64 0, .int .i64 0, .int .i64 0, .string ⟨#[]⟩] 33)) (.cells #[.string s] 56)) (.cells #[.int .i64 0, .int .i64 0, .int .i64 0, .int .i64 0] 57)) (.cells #[.int .i64 0] 3)) (rdC s)).heap.size = w.heap.size + 5 by simp)
  clear H2 H4 H5 H6 HR HB hg
  have HFX := Lib.hid fun W => fixed_any s W
  have HIS := Lib.hid fun W => is_nil a0 W
  refine (callsIn_wide (n := 9)).1 ?_
  refine callsIn_of_wp_marks Tryd.func9 rfl trivial ?_ rfl
  simp only [Tryd.ntmps9, List.size_toArray, List.length_cons, List.length_nil, Nat.reduceAdd, Nat.reduceSub, Array.replicate_succ, Array.replicate_zero, List.push_toArray, List.append_toArray, List.nil_append, List.cons_append]
  refine wpIn_wide.2 ?_
  go_wp2_with fail
  go_step3
  go_wp2_with fail
  go_step3
  go_wp2_with (go_at_call 20; refine (HFX.out _).mono ?_; rintro e w' ⟨rfl, rfl⟩)
  refine (wpIn_wide (n := 9)).1 ?_
  generalize (World.alloc (World.alloc (World.alloc (World.alloc (World.alloc w (.cells #[.int .i64 0, .int .i64 0, .int .i64 0, .string ⟨#[]⟩] 33)) (.cells #[.string s] 56)) (.cells #[.int .i64 0, .int .i64 0, .int .i64 0, .int .i64 0] 57)) (.cells #[.int .i64 0] 3)) (rdC s)) = W0 at *
  have hSZ := HSZ.out
  refine wpIn_rangeFunc_st (F := Fence.wide) rfl (by omega) (gf := 36) (lb := #[.pointer (some ⟨w.heap.size + 1 + 1 + 1 + 1, 0, none⟩)]) rfl trivial (enters_of Tryd.func36 (by kernel_rfl) rfl)
    (fun i => #[.int .i64 (fval s.data.toList i), .nilIface]) (fun _ => rfl) (fun W => XDc w s a0 0 W) (fun i W => i < 4 ∧ XDc w s a0 i W) (fun i W => XDc w s a0 (i + 1) W) (fun _ _ => False) (fun W => XDc w s a0 4 W)
    (fun o o' => ?j0) (fun i W l o hl h => ?j1) (fun i W l o hl h => ?j2) (fun c W l o hl h => h.elim) (fun W l o hl h => ?j4)
    (fun l r W hl h0 hk hY => fixed1_wide 8 (by omega) s h7 hm _ l r (fun i W => XDc w s a0 i W) (fun _ _ => False) (fun i W h => h.rd) (fun i W W' h hb => h.down hb) (fun i W1 hi hx hk => hY i W1 ⟨hi, hx⟩ hk) W h0 hk)
    (fun i => { tmps := #[.string s, undef, .pointer (some ⟨w.heap.size, 0, none⟩), .int .i64 0, .pointer (some ⟨w.heap.size + 1, 0, none⟩), .pointer (some ⟨w.heap.size + 1 + 1, 0, none⟩), .pointer (some ⟨w.heap.size + 1 + 1 + 1, 0, none⟩), .int .i64 (fval s.data.toList i), .nilIface, undef, undef, undef, undef, .string s, .agg #[.string s], .agg #[.string s], .func (Fn.func 36) #[] #[.pointer (some ⟨w.heap.size + 1 + 1 + 1 + 1, 0, none⟩)], .int .i64 (fval s.data.toList i), .nilIface, undef, undef, undef, undef, undef, undef, undef, undef, undef, undef, undef, undef, undef, undef, undef, undef, undef, undef, undef, undef, undef, undef, undef, undef, undef, undef, undef, undef, undef, undef, undef, undef, undef, undef, undef, undef, undef, undef, undef, undef, undef, undef, undef, undef, undef, undef, undef, undef, undef, undef, undef, undef, undef, undef, undef, undef, undef, undef, undef], defers := [] }) ?assign ?body ?done ?stop
  case j0 => exact HX0.out.down (((Below.refl _ _).alloc (Nat.le_refl _) o).alloc (by simp) o')
  case j1 => exact ⟨h.1, h.2.put (by omega) hw o⟩
  case j2 => exact h.put (by omega) hw o
  case j4 => exact h.put (by omega) hw o
  case stop => exact fun c W h => h.elim
  case assign =>
    intro l i W K hK
    gi_wp2
    exact hK
  case body =>
    rintro l i W ⟨hi, hX⟩
    have HX := Lib.hid hX; clear hX
    have gl : W.cell? ⟨0, 0, none⟩ = some (errV a0) := HX.out.gl
    have c6 := (cell_of_block (k := 0) HX.out.a6 rfl).1; have z6 := (cell_of_block (k := 0) HX.out.a6 rfl).2
    match i, hi with
    | 0, _ =>
      have c5 := (cell_of_block (k := 0) HX.out.a5 rfl).1; have z5 := (cell_of_block (k := 0) HX.out.a5 rfl).2
      gi_wp2_with (refine ⟨trivial, ?_⟩; gi_at_call 18; refine (CallsIn.inRound l (callsIn_wide.2 (HIS.out _))).mono ?_; rintro e w2 ⟨rfl, rfl⟩)
      exact ⟨(KeepsOthers.setCell _ _ _).trans (KeepsOthers.setCell _ _ _), HX.out.step 1 rfl _ rfl⟩
    | 1, _ =>
      have c5 := (cell_of_block (k := 1) HX.out.a5 rfl).1; have z5 := (cell_of_block (k := 1) HX.out.a5 rfl).2
      gi_wp2_with (refine ⟨trivial, ?_⟩; gi_at_call 18; refine (CallsIn.inRound l (callsIn_wide.2 (HIS.out _))).mono ?_; rintro e w2 ⟨rfl, rfl⟩)
      exact ⟨(KeepsOthers.setCell _ _ _).trans (KeepsOthers.setCell _ _ _), HX.out.step 2 rfl _ rfl⟩
    | 2, _ =>
      have c5 := (cell_of_block (k := 2) HX.out.a5 rfl).1; have z5 := (cell_of_block (k := 2) HX.out.a5 rfl).2
      gi_wp2_with (refine ⟨trivial, ?_⟩; gi_at_call 18; refine (CallsIn.inRound l (callsIn_wide.2 (HIS.out _))).mono ?_; rintro e w2 ⟨rfl, rfl⟩)
      exact ⟨(KeepsOthers.setCell _ _ _).trans (KeepsOthers.setCell _ _ _), HX.out.step 3 rfl _ rfl⟩
    | 3, _ =>
      have c5 := (cell_of_block (k := 3) HX.out.a5 rfl).1; have z5 := (cell_of_block (k := 3) HX.out.a5 rfl).2
      gi_wp2_with (refine ⟨trivial, ?_⟩; gi_at_call 18; refine (CallsIn.inRound l (callsIn_wide.2 (HIS.out _))).mono ?_; rintro e w2 ⟨rfl, rfl⟩)
      exact ⟨(KeepsOthers.setCell _ _ _).trans (KeepsOthers.setCell _ _ _), HX.out.step 4 rfl _ rfl⟩
  case done =>
    intro W hX hD
    rw [hSZ] at hD
    have HX := Lib.hid hX; have HD := Lib.hid hD; clear hX hD
    have hf3 := fval_bd s.data.toList 3
    have hll : s.data.toList.length = s.size := rfl
    have HDK : Hid (Dk s.data.toList ↔ ((s.size : Int) = 11 + fval s.data.toList 3 ∧ FrOk (fval s.data.toList 0) (fval s.data.toList 1) (fval s.data.toList 2) (fval s.data.toList 3) ∧ nm s.data.toList (s.size - 4) 4 = (crc (s.data.toList.take (s.size - 4)) : Int))) := Lib.hid Iff.rfl
    have HV : Hid (dcVal s.data.toList = .agg #[.int .i64 (fval s.data.toList 0), .int .i64 (fval s.data.toList 1), .int .i64 (fval s.data.toList 2), .string ⟨((s.data.toList.drop 7).take (fval s.data.toList 3).toNat).toArray⟩]) := Lib.hid rfl
    have H5 : Hid (W.heap[w.heap.size + 1 + 1]? = some (.cells #[.int .i64 (fval s.data.toList 0), .int .i64 (fval s.data.toList 1), .int .i64 (fval s.data.toList 2), .int .i64 (fval s.data.toList 3)] 57 (0, 0))) := Lib.hid HX.out.a5
    have HVV := Lib.hid fun (x : ByteArray) W => valid_any (fval s.data.toList 0) (fval s.data.toList 1) (fval s.data.toList 2) x W
    have H2 := Lib.hid HX.out.a2; have H4 := Lib.hid HX.out.a4; have H6 := Lib.hid HX.out.a6; have HG := Lib.hid HX.out.gl; have HB := HX.out.below; clear HX
    generalize fval s.data.toList 0 = f0 at *
    generalize fval s.data.toList 1 = f1 at *
    generalize fval s.data.toList 2 = f2 at *
    generalize fval s.data.toList 3 = f3 at *
    have c5 := (cell_of_block (k := 3) H5.out rfl).1
    have c6 := (cell_of_block (k := 0) H6.out rfl).1
    have c4 := (cell_of_block (k := 0) H4.out rfl).1
    have HLN := Lib.hid fun W => length_any s W
    have k1 : IntKind.i64.wrap (7 + f3) = 7 + f3 := IntWalk.i64_in _ (by omega)
    have k2 : IntKind.i64.wrap (7 + f3 + 4) = 7 + f3 + 4 := IntWalk.i64_in _ (by omega)
    by_cases hl : (s.size : Int) = 11 + f3
    · have hne : ((s.size : Int) != 7 + f3 + 4) = false := by rw [bne_eq_false_iff_eq]; omega
      go_upto_region 13 with (go_at_call 21; refine (HLN.out _).mono ?_; rintro e w' ⟨rfl, rfl⟩)
      obtain ⟨n3, rfl⟩ := Int.eq_ofNat_of_zero_le hf3.1
      have hsz : s.size = 11 + n3 := by omega
      have HPC : Hid (∀ W, Calls Tryd.prog 22 #[.string s, .int .i64 7, .int .i64 (7 + (n3 : Int))] W fun e w' => e = .returned (.string ⟨((s.data.toList.drop 7).take n3).toArray⟩) ∧ W = w') := Lib.hid fun W => by
        have h := piece_any s 7 (7 + (n3 : Int)) W (by omega) (by omega) (by omega)
        have e : s.extract (7 : Int).toNat (7 + (n3 : Int)).toNat = ⟨((s.data.toList.drop 7).take n3).toArray⟩ := by
          rw [show (7 : Int).toNat = 7 from rfl, show (7 + (n3 : Int)).toNat = 7 + n3 from by omega, ba_self (s.extract 7 (7 + n3)), extract_bytesAt]; rfl
        rw [e] at h; exact h
      have HPB : Hid (∀ W, Calls Tryd.prog 22 #[.string s, .int .i64 0, .int .i64 (7 + (n3 : Int))] W fun e w' => e = .returned (.string ⟨(s.data.toList.take (7 + n3)).toArray⟩) ∧ W = w') := Lib.hid fun W => by
        have h := piece_any s 0 (7 + (n3 : Int)) W (by omega) (by omega) (by omega)
        have e : s.extract (0 : Int).toNat (7 + (n3 : Int)).toNat = ⟨(s.data.toList.take (7 + n3)).toArray⟩ := by
          rw [show (0 : Int).toNat = 0 from rfl, show (7 + (n3 : Int)).toNat = 0 + (7 + n3) from by omega, ba_self (s.extract 0 (0 + (7 + n3))), extract_bytesAt]; unfold bytesAt; rw [List.drop_zero]
        rw [e] at h; exact h
      have HCR : Hid (∀ W, Calls Tryd.prog 19 #[.string ⟨(s.data.toList.take (7 + n3)).toArray⟩] W fun e w' => e = .returned (.int .i64 (crc (s.data.toList.take (7 + n3)) : Int)) ∧ Below W.heap.size W w') := Lib.hid fun W => crc_any ⟨(s.data.toList.take (7 + n3)).toArray⟩ W (by rw [sz, List.length_take]; omega)
      have HNM : Hid (∀ W, Calls Tryd.prog 23 #[.string s, .int .i64 (7 + (n3 : Int)), .int .i64 4] W fun e w' => e = .returned (.tuple #[.int .i64 (nm s.data.toList (7 + n3) 4), .nilIface]) ∧ Below W.heap.size W w') := Lib.hid fun W => by
        have h := number_yes s (7 + (n3 : Int)) 4 W (by omega) (by omega) (by omega) (by omega) hm
        rw [show (7 + (n3 : Int)).toNat = 7 + n3 from by omega] at h; exact h
      have HVA : Hid (∀ W, Calls Tryd.prog 16 #[.agg #[.int .i64 f0, .int .i64 f1, .int .i64 f2, .string ⟨((s.data.toList.drop 7).take n3).toArray⟩]] W fun e w' => e = .returned (.bool (frOkB f0 f1 f2 n3)) ∧ Below W.heap.size W w') := Lib.hid fun W => by
        have hz : (⟨((s.data.toList.drop 7).take n3).toArray⟩ : ByteArray).size = n3 := by rw [sz, List.length_take, List.length_drop]; omega
        have h := HVV.out ⟨((s.data.toList.drop 7).take n3).toArray⟩ W (by omega)
        rw [hz] at h; exact h
      have HDK' : Hid (Dk s.data.toList ↔ (FrOk f0 f1 f2 n3 ∧ nm s.data.toList (7 + n3) 4 = (crc (s.data.toList.take (7 + n3)) : Int))) := Lib.hid (by have h := HDK.out; rw [show s.size - 4 = 7 + n3 from by omega] at h; rw [h]; exact ⟨fun q => q.2, fun q => ⟨hl, q⟩⟩)
      have HV' : Hid (dcVal s.data.toList = .agg #[.int .i64 f0, .int .i64 f1, .int .i64 f2, .string ⟨((s.data.toList.drop 7).take n3).toArray⟩]) := Lib.hid (by rw [HV.out, Int.toNat_natCast])
      have hnb := nm_bd s.data.toList (7 + n3) 4
      have hcb := crc_lt (s.data.toList.take (7 + n3))
      clear HVV HDK HV
      generalize (⟨((s.data.toList.drop 7).take n3).toArray⟩ : ByteArray) = pay at *
      generalize (⟨(s.data.toList.take (7 + n3)).toArray⟩ : ByteArray) = body at *
      generalize nm s.data.toList (7 + n3) 4 = sm at *
      generalize crc (s.data.toList.take (7 + n3)) = cr at *
      have d0 := (cell_of_block (k := 0) H5.out rfl).1; have d1 := (cell_of_block (k := 1) H5.out rfl).1; have d2 := (cell_of_block (k := 2) H5.out rfl).1
      go_region_held3 (fun w' => w'.cell? ⟨w.heap.size + 1 + 1, 0, none⟩ = some (.int .i64 f0) ∧ w'.cell? ⟨w.heap.size + 1 + 1, 1, none⟩ = some (.int .i64 f1) ∧ w'.cell? ⟨w.heap.size + 1 + 1, 2, none⟩ = some (.int .i64 f2) ∧ w'.cell? ⟨w.heap.size + 1, 0, none⟩ = some (.string s)) (first | exact ⟨d0, d1, d2, c4⟩ | exact ⟨cell_alloc' _ d0, cell_alloc' _ d1, cell_alloc' _ d2, cell_alloc' _ c4⟩)
        ((go_at_call 22; refine (HPC.out _).mono ?_; rintro e w' ⟨rfl, rfl⟩))
      all_goals
        have hb := (below_alloc (o := .cells #[.int .i64 f0, .int .i64 f1, .int .i64 f2, .string pay] 33) (Below.refl W.heap.size W)).drew
        have HC := Lib.hid (show (W.alloc (.cells #[.int .i64 f0, .int .i64 f1, .int .i64 f2, .string pay] 33)).drew.heap[W.heap.size]? = some (.cells #[.int .i64 f0, .int .i64 f1, .int .i64 f2, .string pay] 33) from alloc_new W (.cells #[.int .i64 f0, .int .i64 f1, .int .i64 f2, .string pay] 33))
        have hzW := HB.size
        clear d0 d1 d2 c4 c5 c6
        have H2' := Lib.hid (bblock hb H2.out); clear H2; have H2 := H2'; clear H2'
        have H4' := Lib.hid (bblock hb H4.out); clear H4; have H4 := H4'; clear H4'
        have HD' := Lib.hid (bblock hb HD.out); clear HD; have HD := HD'; clear HD'
        have HG' := Lib.hid (HG.out.below hb); clear HG; have HG := HG'; clear HG'
        have HB' := below_call HB hb; clear HB hb; have HB := HB'; clear HB'
        generalize (W.alloc (.cells #[.int .i64 f0, .int .i64 f1, .int .i64 f2, .string pay] 33)).drew = W1 at *
        generalize W.heap.size = C at *
        have e0 := (cell_of_block (k := 0) HC.out rfl).1; have e1 := (cell_of_block (k := 1) HC.out rfl).1; have e2 := (cell_of_block (k := 2) HC.out rfl).1; have e3 := (cell_of_block (k := 3) HC.out rfl).1
        have ltC := blk_lt HC.out
        go_wp2_with fail
        refine (HVA.out _).mono ?_
        rintro e w2 ⟨rfl, hb⟩
        clear e0 e1 e2 e3
        have H2' := Lib.hid (bblock hb H2.out); clear H2; have H2 := H2'; clear H2'
        have H4' := Lib.hid (bblock hb H4.out); clear H4; have H4 := H4'; clear H4'
        have HD' := Lib.hid (bblock hb HD.out); clear HD; have HD := HD'; clear HD'
        have HC' := Lib.hid (bblock hb HC.out); clear HC; have HC := HC'; clear HC'
        have HG' := Lib.hid (HG.out.below hb); clear HG; have HG := HG'; clear HG'
        have HB' := below_call HB hb; clear HB hb; have HB := HB'; clear HB'
        by_cases hok : FrOk f0 f1 f2 n3
        · rw [show frOkB f0 f1 f2 n3 = true from decide_eq_true hok]
          have HOK := Lib.hid hok; clear hok
          have c4 := (cell_of_block (k := 0) H4.out rfl).1
          go_wp2_with fail
          refine (HNM.out _).mono ?_
          rintro e w3 ⟨rfl, hb⟩
          clear c4
          have H2' := Lib.hid (bblock hb H2.out); clear H2; have H2 := H2'; clear H2'
          have H4' := Lib.hid (bblock hb H4.out); clear H4; have H4 := H4'; clear H4'
          have HD' := Lib.hid (bblock hb HD.out); clear HD; have HD := HD'; clear HD'
          have HC' := Lib.hid (bblock hb HC.out); clear HC; have HC := HC'; clear HC'
          have HG' := Lib.hid (HG.out.below hb); clear HG; have HG := HG'; clear HG'
          have HB' := below_call HB hb; clear HB hb; have HB := HB'; clear HB'
          have c4 := (cell_of_block (k := 0) H4.out rfl).1
          have gl : w3.cell? ⟨0, 0, none⟩ = some (errV a0) := HG.out
          go_wp2_with (first | (go_at_call 22; refine (HPB.out _).mono ?_; rintro e w' ⟨rfl, rfl⟩) | (go_at_call 18; refine (HIS.out _).mono ?_; rintro e w' ⟨rfl, rfl⟩))
          refine (HCR.out _).mono ?_
          rintro e w4 ⟨rfl, hb⟩
          clear c4 gl
          have H2' := Lib.hid (bblock hb H2.out); clear H2; have H2 := H2'; clear H2'
          have H4' := Lib.hid (bblock hb H4.out); clear H4; have H4 := H4'; clear H4'
          have HD' := Lib.hid (bblock hb HD.out); clear HD; have HD := HD'; clear HD'
          have HC' := Lib.hid (bblock hb HC.out); clear HC; have HC := HC'; clear HC'
          have HG' := Lib.hid (HG.out.below hb); clear HG; have HG := HG'; clear HG'
          have HB' := below_call HB hb; clear HB hb; have HB := HB'; clear HB'
          have r0 := (cell_of_block (k := 0) H2.out rfl).1; have rz0 := (cell_of_block (k := 0) H2.out rfl).2; have r1 := (cell_of_block (k := 1) H2.out rfl).1; have rz1 := (cell_of_block (k := 1) H2.out rfl).2; have r2 := (cell_of_block (k := 2) H2.out rfl).1; have rz2 := (cell_of_block (k := 2) H2.out rfl).2; have r3 := (cell_of_block (k := 3) H2.out rfl).1; have rz3 := (cell_of_block (k := 3) H2.out rfl).2
          by_cases hs : sm = (cr : Int)
          · have hq : (sm != (cr : Int)) = false := by rw [bne_eq_false_iff_eq]; exact hs
            have e0 := (cell_of_block (k := 0) HC.out rfl).1; have e1 := (cell_of_block (k := 1) HC.out rfl).1; have e2 := (cell_of_block (k := 2) HC.out rfl).1; have e3 := (cell_of_block (k := 3) HC.out rfl).1
            go_wp2_with fail
            have hK2 := (block_set_other (a := ⟨w.heap.size, 3, none⟩) (u := .string pay) (block_set_other (a := ⟨w.heap.size, 2, none⟩) (u := .int .i64 f2) (block_set_other (a := ⟨w.heap.size, 1, none⟩) (u := .int .i64 f1) (block_set_other (a := ⟨w.heap.size, 0, none⟩) (u := .int .i64 f0) HD.out (by first | (simp; done) | (simp; omega))) (by first | (simp; done) | (simp; omega))) (by first | (simp; done) | (simp; omega))) (by first | (simp; done) | (simp; omega)))
            have hY2 := cells_eq (b := #[.int .i64 f0, .int .i64 f1, .int .i64 f2, .string pay]) (block_setCell (k := 3) (v := .string pay) (block_setCell (k := 2) (v := .int .i64 f2) (block_setCell (k := 1) (v := .int .i64 f1) (block_setCell (k := 0) (v := .int .i64 f0) H2.out)))) rfl
            have hB2 := (Below.setCell (Below.setCell (Below.setCell (Below.setCell HB (p := ⟨w.heap.size, 0, none⟩) (by simp) (.int .i64 f0)) (p := ⟨w.heap.size, 1, none⟩) (by simp) (.int .i64 f1)) (p := ⟨w.heap.size, 2, none⟩) (by simp) (.int .i64 f2)) (p := ⟨w.heap.size, 3, none⟩) (by simp) (.string pay))
            rw [Exit.noGoto_ret]
            refine ⟨by simp, .inl ⟨_, _, rfl, run_takeDeferred (by first | exact hK2 | (rw [hSZ]; exact hK2)), ?_⟩⟩
            refine ⟨.tuple #[.agg #[.int .i64 f0, .int .i64 f1, .int .i64 f2, .string pay], .int .i64 0], res_cell_tmp Tryd.results9 (g := w.heap.size) (t := 33) (cs := #[.int .i64 f0, .int .i64 f1, .int .i64 f2, .string pay]) (fr := (0, 0)) ((World.putObj_heap_other (by omega)).trans (by exact hY2)) rfl Tryd.underlying33 rfl (by kernel_rfl), below_put (by exact hB2) (by omega) _, .inl ⟨HDK'.out.2 ⟨HOK.out, hs⟩, by rw [HV'.out]⟩⟩
          · have hq : (sm != (cr : Int)) = true := by rw [bne_iff_ne]; exact hs
            go_wp2_with fail
            have hK2 := (block_set_other (a := ⟨w.heap.size, 3, none⟩) (u := .string ⟨#[]⟩) (block_set_other (a := ⟨w.heap.size, 2, none⟩) (u := .int .i64 0) (block_set_other (a := ⟨w.heap.size, 1, none⟩) (u := .int .i64 0) (block_set_other (a := ⟨w.heap.size, 0, none⟩) (u := .int .i64 0) HD.out (by first | (simp; done) | (simp; omega))) (by first | (simp; done) | (simp; omega))) (by first | (simp; done) | (simp; omega))) (by first | (simp; done) | (simp; omega)))
            have hY2 := cells_eq (b := #[.int .i64 0, .int .i64 0, .int .i64 0, .string ⟨#[]⟩]) (block_setCell (k := 3) (v := .string ⟨#[]⟩) (block_setCell (k := 2) (v := .int .i64 0) (block_setCell (k := 1) (v := .int .i64 0) (block_setCell (k := 0) (v := .int .i64 0) H2.out)))) rfl
            have hB2 := (Below.setCell (Below.setCell (Below.setCell (Below.setCell HB (p := ⟨w.heap.size, 0, none⟩) (by simp) (.int .i64 0)) (p := ⟨w.heap.size, 1, none⟩) (by simp) (.int .i64 0)) (p := ⟨w.heap.size, 2, none⟩) (by simp) (.int .i64 0)) (p := ⟨w.heap.size, 3, none⟩) (by simp) (.string ⟨#[]⟩))
            rw [Exit.noGoto_ret]
            refine ⟨by simp, .inl ⟨_, _, rfl, run_takeDeferred (by first | exact hK2 | (rw [hSZ]; exact hK2)), ?_⟩⟩
            refine ⟨.tuple #[.agg #[.int .i64 0, .int .i64 0, .int .i64 0, .string ⟨#[]⟩], .int .i64 40], res_cell_tmp Tryd.results9 (g := w.heap.size) (t := 33) (cs := #[.int .i64 0, .int .i64 0, .int .i64 0, .string ⟨#[]⟩]) (fr := (0, 0)) ((World.putObj_heap_other (by omega)).trans (by exact hY2)) rfl Tryd.underlying33 rfl (by kernel_rfl), below_put (by exact hB2) (by omega) _, .inr ⟨fun q => hs (HDK'.out.1 q).2, rfl⟩⟩
        · rw [show frOkB f0 f1 f2 n3 = false from decide_eq_false hok]
          have r0 := (cell_of_block (k := 0) H2.out rfl).1; have rz0 := (cell_of_block (k := 0) H2.out rfl).2; have r1 := (cell_of_block (k := 1) H2.out rfl).1; have rz1 := (cell_of_block (k := 1) H2.out rfl).2; have r2 := (cell_of_block (k := 2) H2.out rfl).1; have rz2 := (cell_of_block (k := 2) H2.out rfl).2; have r3 := (cell_of_block (k := 3) H2.out rfl).1; have rz3 := (cell_of_block (k := 3) H2.out rfl).2
          go_wp2_with fail
          have hK2 := (block_set_other (a := ⟨w.heap.size, 3, none⟩) (u := .string ⟨#[]⟩) (block_set_other (a := ⟨w.heap.size, 2, none⟩) (u := .int .i64 0) (block_set_other (a := ⟨w.heap.size, 1, none⟩) (u := .int .i64 0) (block_set_other (a := ⟨w.heap.size, 0, none⟩) (u := .int .i64 0) HD.out (by first | (simp; done) | (simp; omega))) (by first | (simp; done) | (simp; omega))) (by first | (simp; done) | (simp; omega))) (by first | (simp; done) | (simp; omega)))
          have hY2 := cells_eq (b := #[.int .i64 0, .int .i64 0, .int .i64 0, .string ⟨#[]⟩]) (block_setCell (k := 3) (v := .string ⟨#[]⟩) (block_setCell (k := 2) (v := .int .i64 0) (block_setCell (k := 1) (v := .int .i64 0) (block_setCell (k := 0) (v := .int .i64 0) H2.out)))) rfl
          have hB2 := (Below.setCell (Below.setCell (Below.setCell (Below.setCell HB (p := ⟨w.heap.size, 0, none⟩) (by simp) (.int .i64 0)) (p := ⟨w.heap.size, 1, none⟩) (by simp) (.int .i64 0)) (p := ⟨w.heap.size, 2, none⟩) (by simp) (.int .i64 0)) (p := ⟨w.heap.size, 3, none⟩) (by simp) (.string ⟨#[]⟩))
          rw [Exit.noGoto_ret]
          refine ⟨by simp, .inl ⟨_, _, rfl, run_takeDeferred (by first | exact hK2 | (rw [hSZ]; exact hK2)), ?_⟩⟩
          refine ⟨.tuple #[.agg #[.int .i64 0, .int .i64 0, .int .i64 0, .string ⟨#[]⟩], .int .i64 40], res_cell_tmp Tryd.results9 (g := w.heap.size) (t := 33) (cs := #[.int .i64 0, .int .i64 0, .int .i64 0, .string ⟨#[]⟩]) (fr := (0, 0)) ((World.putObj_heap_other (by omega)).trans (by exact hY2)) rfl Tryd.underlying33 rfl (by kernel_rfl), below_put (by exact hB2) (by omega) _, .inr ⟨fun q => hok (HDK'.out.1 q).1, rfl⟩⟩
    · have hne : ((s.size : Int) != 7 + f3 + 4) = true := by rw [bne_iff_ne]; omega
      have r0 := (cell_of_block (k := 0) H2.out rfl).1; have rz0 := (cell_of_block (k := 0) H2.out rfl).2; have r1 := (cell_of_block (k := 1) H2.out rfl).1; have rz1 := (cell_of_block (k := 1) H2.out rfl).2; have r2 := (cell_of_block (k := 2) H2.out rfl).1; have rz2 := (cell_of_block (k := 2) H2.out rfl).2; have r3 := (cell_of_block (k := 3) H2.out rfl).1; have rz3 := (cell_of_block (k := 3) H2.out rfl).2
      go_wp2_with (go_at_call 21; refine (HLN.out _).mono ?_; rintro e w' ⟨rfl, rfl⟩)
      have hK2 := (block_set_other (a := ⟨w.heap.size, 3, none⟩) (u := .string ⟨#[]⟩) (block_set_other (a := ⟨w.heap.size, 2, none⟩) (u := .int .i64 0) (block_set_other (a := ⟨w.heap.size, 1, none⟩) (u := .int .i64 0) (block_set_other (a := ⟨w.heap.size, 0, none⟩) (u := .int .i64 0) HD.out (by first | (simp; done) | (simp; omega))) (by first | (simp; done) | (simp; omega))) (by first | (simp; done) | (simp; omega))) (by first | (simp; done) | (simp; omega)))
      have hY2 := cells_eq (b := #[.int .i64 0, .int .i64 0, .int .i64 0, .string ⟨#[]⟩]) (block_setCell (k := 3) (v := .string ⟨#[]⟩) (block_setCell (k := 2) (v := .int .i64 0) (block_setCell (k := 1) (v := .int .i64 0) (block_setCell (k := 0) (v := .int .i64 0) H2.out)))) rfl
      have hB2 := (Below.setCell (Below.setCell (Below.setCell (Below.setCell HB (p := ⟨w.heap.size, 0, none⟩) (by simp) (.int .i64 0)) (p := ⟨w.heap.size, 1, none⟩) (by simp) (.int .i64 0)) (p := ⟨w.heap.size, 2, none⟩) (by simp) (.int .i64 0)) (p := ⟨w.heap.size, 3, none⟩) (by simp) (.string ⟨#[]⟩))
      rw [Exit.noGoto_ret]
      refine ⟨by simp, .inl ⟨_, _, rfl, run_takeDeferred (by first | exact hK2 | (rw [hSZ]; exact hK2)), ?_⟩⟩
      refine ⟨.tuple #[.agg #[.int .i64 0, .int .i64 0, .int .i64 0, .string ⟨#[]⟩], .int .i64 40], res_cell_tmp Tryd.results9 (g := w.heap.size) (t := 33) (cs := #[.int .i64 0, .int .i64 0, .int .i64 0, .string ⟨#[]⟩]) (fr := (0, 0)) ((World.putObj_heap_other (by omega)).trans (by exact hY2)) rfl Tryd.underlying33 rfl (by kernel_rfl), below_put (by exact hB2) (by omega) _, .inr ⟨fun q => hl (HDK.out.1 q).1, rfl⟩⟩
end Go.Proofs.YtpiohahfdekmhaaDoor.Lk
