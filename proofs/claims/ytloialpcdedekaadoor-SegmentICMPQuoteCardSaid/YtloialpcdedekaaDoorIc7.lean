/-
  The contract of icmp.read.
-/
import Derived.Test.YtloialpcdedekaaDoorIc6
import Derived.WalkMore
namespace Go.Proofs.YtloialpcdedekaaDoor.Ic
set_option maxRecDepth 100000
open Go.RowKit Go.Proofs.YtloialpcdedekaaDoor.Wire Go.Shelf
attribute [local go_sem] Oper.semAt_some

theorem fields_any (R g : Nat) (w : World) : Calls Tryd.prog 46 #[.pointer (some ⟨R, 0, none⟩), .slice (some ⟨g, 0, none⟩) 4 4] w fun e w' =>
    e = .returned (.func (Fn.func 61) #[] #[.pointer (some ⟨w.heap.size + 1, 0, none⟩), .pointer (some ⟨w.heap.size, 0, none⟩)]) ∧ w' = (w.alloc (.cells #[.pointer (some ⟨R, 0, none⟩)] 98)).alloc (.cells #[.slice (some ⟨g, 0, none⟩) 4 4] 87) := by
  go_enter Tryd.func46, Tryd.ntmps46
  go_wp2_with fail
  go_ret
  exact ⟨rfl, rfl⟩
/-- the message as it has been read so far -/
def mcells (s : ByteArray) : Nat → Array Value
  | 0 => #[.int .i64 0, .int .i64 0, .int .i64 0, .string ⟨#[]⟩]
  | 1 => #[.int .i64 (fval s 0), .int .i64 0, .int .i64 0, .string ⟨#[]⟩]
  | 2 => #[.int .i64 (fval s 0), .int .i64 (fval s 1), .int .i64 0, .string ⟨#[]⟩]
  | 3 => #[.int .i64 (fval s 0), .int .i64 (fval s 1), .int .i64 0, .string ⟨#[]⟩]
  | _ => #[.int .i64 (fval s 0), .int .i64 (fval s 1), .int .i64 (fval s 3), .string ⟨#[]⟩]
structure XRd (w : World) (s : ByteArray) (i : Nat) (W : World) : Prop where
  am : W.heap[w.heap.size + 1]? = some (.cells (mcells s i) 33 (0, 0))
  a5 : W.heap[w.heap.size + 1 + 1 + 1]? = some (.cells #[.pointer (some ⟨w.heap.size + 1 + 1, 0, none⟩)] 98 (0, 0))
  a2 : W.heap[w.heap.size]? = some (.cells #[.int .i64 0, .int .i64 0, .int .i64 0, .string ⟨#[]⟩] 33 (0, 0))
  below : Below w.heap.size w W
  kn : 1 ≤ i → knownB (fval s 0) = true
theorem XRd.down {w s i W W'} (h : XRd w s i W) (hb : Below W.heap.size W W') : XRd w s i W' := ⟨bblock hb h.am, bblock hb h.a5, bblock hb h.a2, below_call h.below hb, h.kn⟩
theorem XRd.setR {w s i W} (h : XRd w s i W) (o : Nat) (v : Value) : XRd w s i (W.setCell ⟨w.heap.size + 1 + 1, o, none⟩ v) :=
  ⟨block_set_other h.am (by simp), block_set_other h.a5 (by simp), block_set_other h.a2 (by simp; omega), Below.setCell h.below (by simp; omega) v, h.kn⟩
theorem XRd.setM {w s i W} (h : XRd w s i W) (j : Nat) (_ : 1 ≤ j) (o : Nat) (v : Value) (e : (mcells s i).setIfInBounds o v = mcells s j) (hk : knownB (fval s 0) = true) : XRd w s j (W.setCell ⟨w.heap.size + 1, o, none⟩ v) :=
  ⟨cells_eq (block_setCell h.am) e, block_set_other h.a5 (by simp), block_set_other h.a2 (by simp), Below.setCell h.below (by simp) v, fun _ => hk⟩
theorem XRd.put {w s i W} (h : XRd w s i W) {l : Nat} (hl : w.heap.size + 7 ≤ l) (o : Obj) : XRd w s i (W.putObj l o) :=
  ⟨(World.putObj_heap_other (by omega)).trans h.am, (World.putObj_heap_other (by omega)).trans h.a5, (World.putObj_heap_other (by omega)).trans h.a2, ⟨h.below.os, h.below.tape, h.below.output, by simpa [World.putObj] using h.below.size, fun k hk => (World.putObj_heap_other (by omega)).trans (h.below.block k hk)⟩, h.kn⟩
theorem RSt.put {s a0 a1 Bw g Bp R at_ er W} (h : RSt s a0 a1 Bw g Bp R at_ er W) {l : Nat} (hl : Bw < l ∧ g < l ∧ Bp < l ∧ R < l ∧ 2 ≤ l) (o : Obj) : RSt s a0 a1 Bw g Bp R at_ er (W.putObj l o) :=
  ⟨(World.putObj_heap_other (by omega)).trans h.bw, (World.putObj_heap_other (by omega)).trans h.gw, (World.putObj_heap_other (by omega)).trans h.bp, (World.putObj_heap_other (by omega)).trans h.rd, by
    have q : ∀ k, k < 2 → (W.putObj l o).heap[k]? = W.heap[k]? := fun k hk => World.putObj_heap_other (by omega)
    exact ⟨by have := h.gl.1; unfold World.cell? at this ⊢; rw [q _ (by decide)]; exact this, by have := h.gl.2; unfold World.cell? at this ⊢; rw [q _ (by decide)]; exact this⟩⟩
theorem RSt.setM {s a0 a1 Bw g Bp R at_ er W} (h : RSt s a0 a1 Bw g Bp R at_ er W) {B : Nat} (hB : B ≠ Bw ∧ B ≠ g ∧ B ≠ Bp ∧ B ≠ R ∧ 2 ≤ B) (o : Nat) (v : Value) : RSt s a0 a1 Bw g Bp R at_ er (W.setCell ⟨B, o, none⟩ v) :=
  ⟨block_set_other h.bw hB.1, block_set_other h.gw hB.2.1, block_set_other h.bp hB.2.2.1, block_set_other h.rd hB.2.2.2.1, cell_set_other h.gl.1 (by show B ≠ _; omega), cell_set_other h.gl.2 (by show B ≠ _; omega)⟩
theorem keeps_below {W W' : World} (h : Below W.heap.size W W') : KeepsOthers W W' := ⟨h.size, fun _ _ hk _ => bblock h hk⟩
theorem below_put {B : Nat} {w W : World} (h : Below B w W) {l : Nat} (hl : B ≤ l) (o : Obj) : Below B w (W.putObj l o) :=
  ⟨h.os, h.tape, h.output, by simpa [World.putObj] using h.size, fun k hk => (World.putObj_heap_other (by omega)).trans (h.block k hk)⟩
def RdPost (s : ByteArray) (a0 a1 : Addr) (w : World) (e : Ending) (w' : World) : Prop := Below w.heap.size w w' ∧
  ((8 ≤ s.size ∧ knownB (fval s 0) = true ∧ e = .returned (.tuple #[.agg #[.int .i64 (fval s 0), .int .i64 (fval s 1), .int .i64 (fval s 3), .string (s.extract 8 s.size)], .nilIface])) ∨
  (¬ (8 ≤ s.size ∧ knownB (fval s 0) = true) ∧ ∃ a, (a = a0 ∨ a = a1) ∧ e = .returned (.tuple #[.agg #[.int .i64 0, .int .i64 0, .int .i64 0, .string ⟨#[]⟩], errV a])))
/-- how the loop is left -/
def JxRd (s : ByteArray) (a0 a1 : Addr) (w : World) (c : Code) (W : World) : Prop := c = .exit 0 ∧ ((knownB (fval s 0) = false ∧ RSt s a0 a1 (w.heap.size + 1 + 1 + 1 + 1 + 1 + 1) (w.heap.size + 1 + 1 + 1 + 1) (w.heap.size + 1 + 1 + 1 + 1 + 1) (w.heap.size + 1 + 1) 1 (errV a1) W ∧ XRd w s 0 W) ∨ (8 ≤ s.size ∧ RSt s a0 a1 (w.heap.size + 1 + 1 + 1 + 1 + 1 + 1) (w.heap.size + 1 + 1 + 1 + 1) (w.heap.size + 1 + 1 + 1 + 1 + 1) (w.heap.size + 1 + 1) 8 .nilIface W ∧ XRd w s 4 W))
set_option maxHeartbeats 4000000 in
theorem read_any (s : ByteArray) (hm : s.size ≤ 9223372036854775807) (a0 a1 : Addr) (w : World) (hg : Gl w a0 a1) (hw : 2 ≤ w.heap.size) :
    Calls Tryd.prog 29 #[.string s] w (RdPost s a0 a1 w) := by
  have H2 := alloc_new' w (.cells #[.int .i64 0, .int .i64 0, .int .i64 0, .string ⟨#[]⟩] 33) (w.heap.size) rfl
  have Hm := alloc_new' (World.alloc w (.cells #[.int .i64 0, .int .i64 0, .int .i64 0, .string ⟨#[]⟩] 33)) (.cells #[.int .i64 0, .int .i64 0, .int .i64 0, .string ⟨#[]⟩] 33) (w.heap.size + 1) (by simp)
  have H2 := block_alloc H2 (.cells #[.int .i64 0, .int .i64 0, .int .i64 0, .string ⟨#[]⟩] 33)
  have HR := alloc_new' (World.alloc (World.alloc w (.cells #[.int .i64 0, .int .i64 0, .int .i64 0, .string ⟨#[]⟩] 33)) (.cells #[.int .i64 0, .int .i64 0, .int .i64 0, .string ⟨#[]⟩] 33)) (.cells #[.string s, .int .i64 0, .nilIface] 101) (w.heap.size + 1 + 1) (by simp)
  have H2 := block_alloc H2 (.cells #[.string s, .int .i64 0, .nilIface] 101)
  have Hm := block_alloc Hm (.cells #[.string s, .int .i64 0, .nilIface] 101)
  have H5 := alloc_new' (World.alloc (World.alloc (World.alloc w (.cells #[.int .i64 0, .int .i64 0, .int .i64 0, .string ⟨#[]⟩] 33)) (.cells #[.int .i64 0, .int .i64 0, .int .i64 0, .string ⟨#[]⟩] 33)) (.cells #[.string s, .int .i64 0, .nilIface] 101)) (.cells #[.pointer (some ⟨w.heap.size + 1 + 1, 0, none⟩)] 98) (w.heap.size + 1 + 1 + 1) (by simp)
  have H2 := block_alloc H2 (.cells #[.pointer (some ⟨w.heap.size + 1 + 1, 0, none⟩)] 98)
  have Hm := block_alloc Hm (.cells #[.pointer (some ⟨w.heap.size + 1 + 1, 0, none⟩)] 98)
  have HR := block_alloc HR (.cells #[.pointer (some ⟨w.heap.size + 1 + 1, 0, none⟩)] 98)
  have Hg := alloc_new' (World.alloc (World.alloc (World.alloc (World.alloc w (.cells #[.int .i64 0, .int .i64 0, .int .i64 0, .string ⟨#[]⟩] 33)) (.cells #[.int .i64 0, .int .i64 0, .int .i64 0, .string ⟨#[]⟩] 33)) (.cells #[.string s, .int .i64 0, .nilIface] 101)) (.cells #[.pointer (some ⟨w.heap.size + 1 + 1, 0, none⟩)] 98)) (.cells #[.int .i64 1, .int .i64 1, .int .i64 2, .int .i64 4] 3) (w.heap.size + 1 + 1 + 1 + 1) (by simp)
  have H2 := block_alloc H2 (.cells #[.int .i64 1, .int .i64 1, .int .i64 2, .int .i64 4] 3)
  have Hm := block_alloc Hm (.cells #[.int .i64 1, .int .i64 1, .int .i64 2, .int .i64 4] 3)
  have HR := block_alloc HR (.cells #[.int .i64 1, .int .i64 1, .int .i64 2, .int .i64 4] 3)
  have H5 := block_alloc H5 (.cells #[.int .i64 1, .int .i64 1, .int .i64 2, .int .i64 4] 3)
  have Hp := alloc_new' (World.alloc (World.alloc (World.alloc (World.alloc (World.alloc w (.cells #[.int .i64 0, .int .i64 0, .int .i64 0, .string ⟨#[]⟩] 33)) (.cells #[.int .i64 0, .int .i64 0, .int .i64 0, .string ⟨#[]⟩] 33)) (.cells #[.string s, .int .i64 0, .nilIface] 101)) (.cells #[.pointer (some ⟨w.heap.size + 1 + 1, 0, none⟩)] 98)) (.cells #[.int .i64 1, .int .i64 1, .int .i64 2, .int .i64 4] 3)) (.cells #[.pointer (some ⟨w.heap.size + 1 + 1, 0, none⟩)] 98) (w.heap.size + 1 + 1 + 1 + 1 + 1) (by simp)
  have H2 := block_alloc H2 (.cells #[.pointer (some ⟨w.heap.size + 1 + 1, 0, none⟩)] 98)
  have Hm := block_alloc Hm (.cells #[.pointer (some ⟨w.heap.size + 1 + 1, 0, none⟩)] 98)
  have HR := block_alloc HR (.cells #[.pointer (some ⟨w.heap.size + 1 + 1, 0, none⟩)] 98)
  have H5 := block_alloc H5 (.cells #[.pointer (some ⟨w.heap.size + 1 + 1, 0, none⟩)] 98)
  have Hg := block_alloc Hg (.cells #[.pointer (some ⟨w.heap.size + 1 + 1, 0, none⟩)] 98)
  have Hw := alloc_new' (World.alloc (World.alloc (World.alloc (World.alloc (World.alloc (World.alloc w (.cells #[.int .i64 0, .int .i64 0, .int .i64 0, .string ⟨#[]⟩] 33)) (.cells #[.int .i64 0, .int .i64 0, .int .i64 0, .string ⟨#[]⟩] 33)) (.cells #[.string s, .int .i64 0, .nilIface] 101)) (.cells #[.pointer (some ⟨w.heap.size + 1 + 1, 0, none⟩)] 98)) (.cells #[.int .i64 1, .int .i64 1, .int .i64 2, .int .i64 4] 3)) (.cells #[.pointer (some ⟨w.heap.size + 1 + 1, 0, none⟩)] 98)) (.cells #[.slice (some ⟨w.heap.size + 1 + 1 + 1 + 1, 0, none⟩) 4 4] 87) (w.heap.size + 1 + 1 + 1 + 1 + 1 + 1) (by simp)
  have H2 := block_alloc H2 (.cells #[.slice (some ⟨w.heap.size + 1 + 1 + 1 + 1, 0, none⟩) 4 4] 87)
  have Hm := block_alloc Hm (.cells #[.slice (some ⟨w.heap.size + 1 + 1 + 1 + 1, 0, none⟩) 4 4] 87)
  have HR := block_alloc HR (.cells #[.slice (some ⟨w.heap.size + 1 + 1 + 1 + 1, 0, none⟩) 4 4] 87)
  have H5 := block_alloc H5 (.cells #[.slice (some ⟨w.heap.size + 1 + 1 + 1 + 1, 0, none⟩) 4 4] 87)
  have Hg := block_alloc Hg (.cells #[.slice (some ⟨w.heap.size + 1 + 1 + 1 + 1, 0, none⟩) 4 4] 87)
  have Hp := block_alloc Hp (.cells #[.slice (some ⟨w.heap.size + 1 + 1 + 1 + 1, 0, none⟩) 4 4] 87)
  have HB := below_alloc (o := .cells #[.slice (some ⟨w.heap.size + 1 + 1 + 1 + 1, 0, none⟩) 4 4] 87) (below_alloc (o := .cells #[.pointer (some ⟨w.heap.size + 1 + 1, 0, none⟩)] 98) (below_alloc (o := .cells #[.int .i64 1, .int .i64 1, .int .i64 2, .int .i64 4] 3) (below_alloc (o := .cells #[.pointer (some ⟨w.heap.size + 1 + 1, 0, none⟩)] 98) (below_alloc (o := .cells #[.string s, .int .i64 0, .nilIface] 101) (below_alloc (o := .cells #[.int .i64 0, .int .i64 0, .int .i64 0, .string ⟨#[]⟩] 33) (below_alloc (o := .cells #[.int .i64 0, .int .i64 0, .int .i64 0, .string ⟨#[]⟩] 33) (Below.refl w.heap.size w)))))))
  have hgl := hg.below HB
  have hsz : (World.alloc (World.alloc (World.alloc (World.alloc (World.alloc (World.alloc (World.alloc w (.cells #[.int .i64 0, .int .i64 0, .int .i64 0, .string ⟨#[]⟩] 33)) (.cells #[.int .i64 0, .int .i64 0, .int .i64 0, .string ⟨#[]⟩] 33)) (.cells #[.string s, .int .i64 0, .nilIface] 101)) (.cells #[.pointer (some ⟨w.heap.size + 1 + 1, 0, none⟩)] 98)) (.cells #[.int .i64 1, .int .i64 1, .int .i64 2, .int .i64 4] 3)) (.cells #[.pointer (some ⟨w.heap.size + 1 + 1, 0, none⟩)] 98)) (.cells #[.slice (some ⟨w.heap.size + 1 + 1 + 1 + 1, 0, none⟩) 4 4] 87)).heap.size = w.heap.size + 7 := by simp
  have H2 := Lib.hid H2; have Hm := Lib.hid Hm; have HR := Lib.hid HR; have H5 := Lib.hid H5; have Hgg := Lib.hid Hg; have Hp := Lib.hid Hp; have Hw := Lib.hid Hw; have HB := Lib.hid HB; have HGL := Lib.hid hgl; have HSZ := Lib.hid hsz
  refine (callsIn_wide (n := 9)).1 ?_
  refine callsIn_of_wp_marks Tryd.func29 rfl trivial ?_ rfl
  simp only [Tryd.ntmps29, List.size_toArray, List.length_cons, List.length_nil, Nat.reduceAdd, Nat.reduceSub, Array.replicate_succ, Array.replicate_zero, List.push_toArray, List.append_toArray, List.nil_append, List.cons_append]
  skip
  refine wpIn_wide.2 ?_
  go_wp2_with fail
  go_step3
  go_wp2_with fail
  go_step3
  go_wp2_with (go_at_call 46; refine (fields_any _ _ _).mono ?_; rintro e w' ⟨rfl, rfl⟩)
  generalize (World.alloc (World.alloc (World.alloc (World.alloc (World.alloc (World.alloc (World.alloc w (.cells #[.int .i64 0, .int .i64 0, .int .i64 0, .string ⟨#[]⟩] 33)) (.cells #[.int .i64 0, .int .i64 0, .int .i64 0, .string ⟨#[]⟩] 33)) (.cells #[.string s, .int .i64 0, .nilIface] 101)) (.cells #[.pointer (some ⟨w.heap.size + 1 + 1, 0, none⟩)] 98)) (.cells #[.int .i64 1, .int .i64 1, .int .i64 2, .int .i64 4] 3)) (.cells #[.pointer (some ⟨w.heap.size + 1 + 1, 0, none⟩)] 98)) (.cells #[.slice (some ⟨w.heap.size + 1 + 1 + 1 + 1, 0, none⟩) 4 4] 87)) = W0 at *
  refine (wpIn_wide (n := 9)).1 ?_
  have hR7 : w.heap.size + 1 + 1 < W0.heap.size := by have := HSZ.out; omega
  refine wpIn_rangeFunc_st (F := Fence.wide) rfl (by omega) (gf := 61) (lb := #[.pointer (some ⟨w.heap.size + 1 + 1 + 1 + 1 + 1 + 1, 0, none⟩), .pointer (some ⟨w.heap.size + 1 + 1 + 1 + 1 + 1, 0, none⟩)]) rfl trivial (enters_of Tryd.func61 (by kernel_rfl) rfl)
    (fun i => #[.int .i64 (i : Int), .int .i64 (fval s i)]) (fun _ => rfl) (fun W => RSt s a0 a1 (w.heap.size + 1 + 1 + 1 + 1 + 1 + 1) (w.heap.size + 1 + 1 + 1 + 1) (w.heap.size + 1 + 1 + 1 + 1 + 1) (w.heap.size + 1 + 1) 0 .nilIface W ∧ XRd w s 0 W ∧ 0 ≤ 3)
    (fun i W => i < 4 ∧ ofs (i + 1) ≤ (s.size : Int) ∧ RSt s a0 a1 (w.heap.size + 1 + 1 + 1 + 1 + 1 + 1) (w.heap.size + 1 + 1 + 1 + 1) (w.heap.size + 1 + 1 + 1 + 1 + 1) (w.heap.size + 1 + 1) (ofs (i + 1)) .nilIface W ∧ XRd w s i W ∧ i ≤ 3)
    (fun i W => RSt s a0 a1 (w.heap.size + 1 + 1 + 1 + 1 + 1 + 1) (w.heap.size + 1 + 1 + 1 + 1) (w.heap.size + 1 + 1 + 1 + 1 + 1) (w.heap.size + 1 + 1) (ofs (i + 1)) .nilIface W ∧ XRd w s (i + 1) W ∧ i + 1 ≤ 3) (JxRd s a0 a1 w)
    (fun W => ∃ i er, (XRd w s i W ∧ i ≤ 3) ∧ RSt s a0 a1 (w.heap.size + 1 + 1 + 1 + 1 + 1 + 1) (w.heap.size + 1 + 1 + 1 + 1) (w.heap.size + 1 + 1 + 1 + 1 + 1) (w.heap.size + 1 + 1) (ofs i) er W ∧ ((i = 4 ∧ er = .nilIface) ∨ (i < 4 ∧ (s.size : Int) < ofs (i + 1) ∧ er = errV a0)))
    (fun o o' => ?j0) (fun i W l o hl h => ?j1) (fun i W l o hl h => ?j2) (fun c W l o hl h => ?j3) (fun W l o hl h => ?j4)
    (fun l r W hl h0 hk hY => fields1_wide 8 (by omega) s hm a0 a1 _ _ _ _ l r (by omega) ⟨by omega, by omega, by omega, by omega⟩ (fun i W => XRd w s i W ∧ i ≤ 3) (JxRd s a0 a1 w) (fun i W W' h hb => ⟨h.1.down hb, h.2⟩) (fun i W o v h => ⟨h.1.setR o v, h.2⟩) (fun i W1 hi ho hS hx hk => hY i W1 ⟨hi, ho, hS, hx⟩ hk) W h0.1 h0.2 hk)
    (fun i => { tmps := #[.string s, undef, .pointer (some ⟨w.heap.size, 0, none⟩), .nilIface, .pointer (some ⟨w.heap.size + 1, 0, none⟩), .pointer (some ⟨w.heap.size + 1 + 1 + 1, 0, none⟩), .int .i64 (i : Int), .int .i64 (fval s i), undef, undef, .string s, .agg #[.string s, .int .i64 0, .nilIface], .pointer (some ⟨w.heap.size + 1 + 1, 0, none⟩), .pointer (some ⟨w.heap.size + 1 + 1, 0, none⟩), .slice (some ⟨w.heap.size + 1 + 1 + 1 + 1, 0, none⟩) 4 4, .func (Fn.func 61) #[] #[.pointer (some ⟨w.heap.size + 1 + 1 + 1 + 1 + 1 + 1, 0, none⟩), .pointer (some ⟨w.heap.size + 1 + 1 + 1 + 1 + 1, 0, none⟩)], .int .i64 (i : Int), .int .i64 (fval s i), undef, undef, undef, undef, undef, undef, undef, undef, undef, undef, undef, undef, undef, undef, undef, undef, undef, undef, undef, undef, undef, undef, undef, undef, undef, undef, undef, undef, undef, undef, undef, undef, undef, undef, undef, undef, undef, undef, undef, undef, undef, undef, undef, undef, undef, undef], defers := [] }) ?assign ?body ?done ?stop
  case j0 => exact ⟨(RSt.mk Hw.out Hgg.out Hp.out HR.out HGL.out : RSt s a0 a1 (w.heap.size + 1 + 1 + 1 + 1 + 1 + 1) (w.heap.size + 1 + 1 + 1 + 1) (w.heap.size + 1 + 1 + 1 + 1 + 1) (w.heap.size + 1 + 1) 0 .nilIface W0).below (((Below.refl _ _).alloc (Nat.le_refl _) o).alloc (by simp) o'), (XRd.mk Hm.out H5.out H2.out HB.out (fun q => by omega) : XRd w s 0 W0).down (((Below.refl _ _).alloc (Nat.le_refl _) o).alloc (by simp) o'), by omega⟩
  have hSZ := HSZ.out
  case j1 => exact ⟨h.1, h.2.1, h.2.2.1.put (by omega) o, h.2.2.2.1.put (by omega) o, h.2.2.2.2⟩
  case j2 => exact ⟨h.1.put (by omega) o, h.2.1.put (by omega) o, h.2.2⟩
  case j3 =>
    obtain ⟨e, h | h⟩ := h
    · exact ⟨e, .inl ⟨h.1, h.2.1.put (by omega) o, h.2.2.put (by omega) o⟩⟩
    · exact ⟨e, .inr ⟨h.1, h.2.1.put (by omega) o, h.2.2.put (by omega) o⟩⟩
  case j4 =>
    obtain ⟨i, er, h1, h2, h3⟩ := h
    exact ⟨i, er, ⟨h1.1.put (by omega) o, h1.2⟩, h2.put (by omega) o, h3⟩
  case assign =>
    intro l i W K hK
    gi_wp2
    exact hK
  case body =>
    rintro l i W ⟨hi, ho, hS, hX, hi3⟩
    have HS := Lib.hid hS; have HX := Lib.hid hX; clear hS hX
    match i, hi with
    | 0, _ =>
      -- false
      cases hkn : knownB (fval s 0) with
      | false =>
        have hev : errV a1 = .iface 136 (.pointer (some a1)) := rfl
        gi_wp2_with (refine ⟨trivial, ?_⟩; gi_at_call 45; refine (CallsIn.inRound l (callsIn_wide.2 (rules_any _))).mono ?_; rintro e w2 ⟨r, rfl, hr, hb⟩; obtain ⟨fn, hfn, hl⟩ := rules_look hr (fval s 0); have hl1 := hl w2 rfl true; unfold ruleV at hl1; rw [hkn] at hl1; have hst := fnStore hfn; clear hl hr; have d5 := (cell_of_block (k := 0) (HX.out.down hb).a5 rfl).1; have l5 := blk_lt (HX.out.down hb).a5; have d0 := (cell_of_block (k := 0) (HX.out.down hb).am rfl).1; have z0 := (cell_of_block (k := 0) (HX.out.down hb).am rfl).2; have lm := blk_lt (HX.out.down hb).am; have r2 := (cell_of_block (k := 2) (HS.out.below hb).rd rfl).1; have y2 := (cell_of_block (k := 2) (HS.out.below hb).rd rfl).2; have lr := blk_lt (HS.out.below hb).rd; have g1 := (HS.out.below hb).gl.2; have lg : 1 < w2.heap.size := by omega)
        exact ⟨((keeps_below hb).trans ((KeepsOthers.setCell _ _ _).trans (KeepsOthers.alloc _ _))), rfl, .inl ⟨hkn, ((HS.out.below hb).fail ⟨by omega, by omega, by omega, by omega⟩ _).below ((Below.refl _ _).alloc (Nat.le_refl _) _), ((HX.out.down hb).setR 2 _).down ((Below.refl _ _).alloc (Nat.le_refl _) _)⟩⟩
      -- true
      | true =>
        gi_wp2_with (refine ⟨trivial, ?_⟩; gi_at_call 45; refine (CallsIn.inRound l (callsIn_wide.2 (rules_any _))).mono ?_; rintro e w2 ⟨r, rfl, hr, hb⟩; obtain ⟨fn, hfn, hl⟩ := rules_look hr (fval s 0); have hl1 := hl w2 rfl true; unfold ruleV at hl1; rw [hkn] at hl1; have hst := fnStore hfn; clear hl hr; have d5 := (cell_of_block (k := 0) (HX.out.down hb).a5 rfl).1; have l5 := blk_lt (HX.out.down hb).a5; have d0 := (cell_of_block (k := 0) (HX.out.down hb).am rfl).1; have z0 := (cell_of_block (k := 0) (HX.out.down hb).am rfl).2; have lm := blk_lt (HX.out.down hb).am; have r2 := (cell_of_block (k := 2) (HS.out.below hb).rd rfl).1; have y2 := (cell_of_block (k := 2) (HS.out.below hb).rd rfl).2; have lr := blk_lt (HS.out.below hb).rd; have g1 := (HS.out.below hb).gl.2; have lg : 1 < w2.heap.size := by omega)
        exact ⟨((keeps_below hb).trans ((KeepsOthers.setCell _ _ _).trans (KeepsOthers.alloc _ _))), ((HS.out.below hb).setM ⟨by omega, by omega, by omega, by omega, by omega⟩ _ _).below ((Below.refl _ _).alloc (Nat.le_refl _) _), ((HX.out.down hb).setM 1 (by omega) 0 _ rfl hkn).down ((Below.refl _ _).alloc (Nat.le_refl _) _), by omega⟩
    | 1, _ =>
      have m1 := (cell_of_block (k := 1) HX.out.am rfl).1; have y1 := (cell_of_block (k := 1) HX.out.am rfl).2
      gi_wp2
      exact ⟨KeepsOthers.setCell _ _ _, HS.out.setM ⟨by omega, by omega, by omega, by omega, by omega⟩ _ _, HX.out.setM 2 (by omega) 1 _ rfl (HX.out.kn (by omega)), by omega⟩
    | 2, _ =>
      gi_wp2
      exact ⟨KeepsOthers.refl _, HS.out, ⟨HX.out.am, HX.out.a5, HX.out.a2, HX.out.below, fun _ => HX.out.kn (by omega)⟩, by omega⟩
    | 3, _ =>
      have m2 := (cell_of_block (k := 2) HX.out.am rfl).1; have y2 := (cell_of_block (k := 2) HX.out.am rfl).2
      gi_wp2
      exact ⟨KeepsOthers.setCell _ _ _, rfl, .inr ⟨by have := ho; simp [ofs] at this; omega, HS.out.setM ⟨by omega, by omega, by omega, by omega, by omega⟩ _ _, HX.out.setM 4 (by omega) 2 _ rfl (HX.out.kn (by omega))⟩⟩
  case done =>
    rintro W ⟨i, er, ⟨hX, hi3⟩, hS, h3⟩ hD
    rcases h3 with ⟨e, -⟩ | ⟨h4, h5, rfl⟩
    · omega
    have HS := Lib.hid hS; have HX := Lib.hid hX; have HD := Lib.hid hD; have HF := Lib.hid h5; clear hS hX hD h5
    have hev : errV a0 = .iface 136 (.pointer (some a0)) := rfl
    have hnq := errNe (.pointer (some a0))
    have d5 := (cell_of_block (k := 0) HX.out.a5 rfl).1; have r2 := (cell_of_block (k := 2) HS.out.rd rfl).1
    obtain ⟨⟨c0, c1, c2, c3⟩, z0, z1, z2, z3⟩ := cells4 HX.out.a2
    go_wp2_with fail
    go_region_held3 (fun w' => w'.cell? ⟨w.heap.size + 1 + 1 + 1, 0, none⟩ = some (.pointer (some ⟨w.heap.size + 1 + 1, 0, none⟩)) ∧ w'.cell? ⟨w.heap.size + 1 + 1, 2, none⟩ = some (errV a0)) (first | exact ⟨d5, r2⟩ | exact ⟨(cell_set_other (cell_set_other (cell_set_other (cell_set_other d5 (by first | (simp; done) | (simp; omega))) (by first | (simp; done) | (simp; omega))) (by first | (simp; done) | (simp; omega))) (by first | (simp; done) | (simp; omega))), (cell_set_other (cell_set_other (cell_set_other (cell_set_other r2 (by first | (simp; done) | (simp; omega))) (by first | (simp; done) | (simp; omega))) (by first | (simp; done) | (simp; omega))) (by first | (simp; done) | (simp; omega)))⟩) (fail)
    go_wp2_with fail
    have hK2 := (block_set_other (a := ⟨w.heap.size, 3, none⟩) (u := .string ⟨#[]⟩) (block_set_other (a := ⟨w.heap.size, 2, none⟩) (u := .int .i64 0) (block_set_other (a := ⟨w.heap.size, 1, none⟩) (u := .int .i64 0) (block_set_other (a := ⟨w.heap.size, 0, none⟩) (u := .int .i64 0) HD.out (by simp; omega)) (by simp; omega)) (by simp; omega)) (by simp; omega))
    have hY2 := cells_eq (b := #[.int .i64 0, .int .i64 0, .int .i64 0, .string ⟨#[]⟩]) (block_setCell (k := 3) (v := .string ⟨#[]⟩) (block_setCell (k := 2) (v := .int .i64 0) (block_setCell (k := 1) (v := .int .i64 0) (block_setCell (k := 0) (v := .int .i64 0) HX.out.a2)))) rfl
    have hB2 := (Below.setCell (Below.setCell (Below.setCell (Below.setCell HX.out.below (p := ⟨w.heap.size, 0, none⟩) (by simp) (.int .i64 0)) (p := ⟨w.heap.size, 1, none⟩) (by simp) (.int .i64 0)) (p := ⟨w.heap.size, 2, none⟩) (by simp) (.int .i64 0)) (p := ⟨w.heap.size, 3, none⟩) (by simp) (.string ⟨#[]⟩))
    rw [hsz] at hK2
    rw [Exit.noGoto_ret]
    refine ⟨by simp, .inl ⟨_, _, rfl, run_takeDeferred (by exact hK2), ?_⟩⟩
    refine ⟨.tuple #[.agg #[.int .i64 0, .int .i64 0, .int .i64 0, .string ⟨#[]⟩], .iface 136 (.pointer (some a0))], res_cell_tmp Tryd.results29 (g := w.heap.size) (t := 33) (cs := #[.int .i64 0, .int .i64 0, .int .i64 0, .string ⟨#[]⟩]) (fr := (0, 0)) ((World.putObj_heap_other (by omega)).trans (by exact hY2)) rfl Tryd.underlying33 rfl (by kernel_rfl), below_put (by exact hB2.drew) (by omega) _, .inr ⟨fun q => by have := HF.out; have := ofs_bd (i + 1); omega, a0, .inl rfl, rfl⟩⟩
  case stop =>
    rintro c W ⟨rfl, h⟩ hD
    refine wpIn_wide.2 ?_
    rcases h with ⟨hkn, hS, hX⟩ | ⟨h8, hS, hX⟩
    · have HS := Lib.hid hS; have HX := Lib.hid hX; have HD := Lib.hid hD; have HKN := Lib.hid hkn; clear hS hX hD hkn
      have hev : errV a1 = .iface 136 (.pointer (some a1)) := rfl
      have hnq := errNe (.pointer (some a1))
      have d5 := (cell_of_block (k := 0) HX.out.a5 rfl).1; have r2 := (cell_of_block (k := 2) HS.out.rd rfl).1
      obtain ⟨⟨c0, c1, c2, c3⟩, z0, z1, z2, z3⟩ := cells4 HX.out.a2
      go_wp2_with fail
      go_region_held3 (fun w' => w'.cell? ⟨w.heap.size + 1 + 1 + 1, 0, none⟩ = some (.pointer (some ⟨w.heap.size + 1 + 1, 0, none⟩)) ∧ w'.cell? ⟨w.heap.size + 1 + 1, 2, none⟩ = some (errV a1)) (first | exact ⟨d5, r2⟩ | exact ⟨(cell_set_other (cell_set_other (cell_set_other (cell_set_other d5 (by first | (simp; done) | (simp; omega))) (by first | (simp; done) | (simp; omega))) (by first | (simp; done) | (simp; omega))) (by first | (simp; done) | (simp; omega))), (cell_set_other (cell_set_other (cell_set_other (cell_set_other r2 (by first | (simp; done) | (simp; omega))) (by first | (simp; done) | (simp; omega))) (by first | (simp; done) | (simp; omega))) (by first | (simp; done) | (simp; omega)))⟩) (fail)
      go_wp2_with fail
      have hK2 := (block_set_other (a := ⟨w.heap.size, 3, none⟩) (u := .string ⟨#[]⟩) (block_set_other (a := ⟨w.heap.size, 2, none⟩) (u := .int .i64 0) (block_set_other (a := ⟨w.heap.size, 1, none⟩) (u := .int .i64 0) (block_set_other (a := ⟨w.heap.size, 0, none⟩) (u := .int .i64 0) HD.out (by simp; omega)) (by simp; omega)) (by simp; omega)) (by simp; omega))
      have hY2 := cells_eq (b := #[.int .i64 0, .int .i64 0, .int .i64 0, .string ⟨#[]⟩]) (block_setCell (k := 3) (v := .string ⟨#[]⟩) (block_setCell (k := 2) (v := .int .i64 0) (block_setCell (k := 1) (v := .int .i64 0) (block_setCell (k := 0) (v := .int .i64 0) HX.out.a2)))) rfl
      have hB2 := (Below.setCell (Below.setCell (Below.setCell (Below.setCell HX.out.below (p := ⟨w.heap.size, 0, none⟩) (by simp) (.int .i64 0)) (p := ⟨w.heap.size, 1, none⟩) (by simp) (.int .i64 0)) (p := ⟨w.heap.size, 2, none⟩) (by simp) (.int .i64 0)) (p := ⟨w.heap.size, 3, none⟩) (by simp) (.string ⟨#[]⟩))
      rw [hsz] at hK2
      rw [Exit.noGoto_ret]
      refine ⟨by simp, .inl ⟨_, _, rfl, run_takeDeferred (by exact hK2), ?_⟩⟩
      refine ⟨.tuple #[.agg #[.int .i64 0, .int .i64 0, .int .i64 0, .string ⟨#[]⟩], .iface 136 (.pointer (some a1))], res_cell_tmp Tryd.results29 (g := w.heap.size) (t := 33) (cs := #[.int .i64 0, .int .i64 0, .int .i64 0, .string ⟨#[]⟩]) (fr := (0, 0)) ((World.putObj_heap_other (by omega)).trans (by exact hY2)) rfl Tryd.underlying33 rfl (by kernel_rfl), below_put (by exact hB2.drew) (by omega) _, .inr ⟨fun q => (by have := HKN.out; rw [q.2] at this; cases this), a1, .inr rfl, rfl⟩⟩
    · have HS := Lib.hid hS; have HX := Lib.hid hX; have HD := Lib.hid hD; have HKN := Lib.hid (hX.kn (by omega)); clear hS hX hD
      have HA : Hid (∀ W, Calls Tryd.prog 47 #[.string s, .int .i64 8] W fun e w' => e = .returned (.string (s.extract 8 s.size)) ∧ W = w') := Lib.hid fun W => after_any s 8 W h8
      have d5 := (cell_of_block (k := 0) HX.out.a5 rfl).1; have r0 := (cell_of_block (k := 0) HS.out.rd rfl).1; have r1 := (cell_of_block (k := 1) HS.out.rd rfl).1; have r2 := (cell_of_block (k := 2) HS.out.rd rfl).1
      have hm4 : W.heap[w.heap.size + 1]? = some (.cells #[.int .i64 (fval s 0), .int .i64 (fval s 1), .int .i64 (fval s 3), .string ⟨#[]⟩] 33 (0, 0)) := HX.out.am
      obtain ⟨⟨m0, m1, m2, m3⟩, y0, y1, y2, y3⟩ := cells4 hm4
      have HM := Lib.hid hm4; clear hm4
      obtain ⟨⟨c0, c1, c2, c3⟩, z0, z1, z2, z3⟩ := cells4 HX.out.a2
      go_wp2_with fail
      go_region_held3 (fun w' => w'.cell? ⟨w.heap.size + 1 + 1 + 1, 0, none⟩ = some (.pointer (some ⟨w.heap.size + 1 + 1, 0, none⟩)) ∧ w'.cell? ⟨w.heap.size + 1 + 1, 0, none⟩ = some (.string s) ∧ w'.cell? ⟨w.heap.size + 1 + 1, 1, none⟩ = some (.int .i64 8)) (first | exact ⟨d5, r0, r1⟩ | exact ⟨cell_set_other d5 (by first | (simp; done) | (simp; omega)), cell_set_other r0 (by first | (simp; done) | (simp; omega)), cell_set_other r1 (by first | (simp; done) | (simp; omega))⟩)
        ((go_at_call 47; refine (HA.out _).mono ?_; rintro e w' ⟨rfl, rfl⟩))
      go_wp2_with fail
      have hK2 := (block_set_other (a := ⟨w.heap.size, 3, none⟩) (u := .string (s.extract 8 s.size)) (block_set_other (a := ⟨w.heap.size, 2, none⟩) (u := .int .i64 (fval s 3)) (block_set_other (a := ⟨w.heap.size, 1, none⟩) (u := .int .i64 (fval s 1)) (block_set_other (a := ⟨w.heap.size, 0, none⟩) (u := .int .i64 (fval s 0)) (block_set_other (a := ⟨w.heap.size + 1, 3, none⟩) (u := .string (s.extract 8 s.size)) HD.out (by simp; omega)) (by simp; omega)) (by simp; omega)) (by simp; omega)) (by simp; omega))
      have hY2 := cells_eq (b := #[.int .i64 (fval s 0), .int .i64 (fval s 1), .int .i64 (fval s 3), .string (s.extract 8 s.size)]) (block_setCell (k := 3) (v := .string (s.extract 8 s.size)) (block_setCell (k := 2) (v := .int .i64 (fval s 3)) (block_setCell (k := 1) (v := .int .i64 (fval s 1)) (block_setCell (k := 0) (v := .int .i64 (fval s 0)) (block_set_other (a := ⟨w.heap.size + 1, 3, none⟩) (u := .string (s.extract 8 s.size)) HX.out.a2 (by simp)))))) rfl
      have hB2 := (Below.setCell (Below.setCell (Below.setCell (Below.setCell (Below.setCell HX.out.below (p := ⟨w.heap.size + 1, 3, none⟩) (by simp) (.string (s.extract 8 s.size))) (p := ⟨w.heap.size, 0, none⟩) (by simp) (.int .i64 (fval s 0))) (p := ⟨w.heap.size, 1, none⟩) (by simp) (.int .i64 (fval s 1))) (p := ⟨w.heap.size, 2, none⟩) (by simp) (.int .i64 (fval s 3))) (p := ⟨w.heap.size, 3, none⟩) (by simp) (.string (s.extract 8 s.size)))
      rw [hsz] at hK2
      rw [Exit.noGoto_ret]
      refine ⟨by simp, .inl ⟨_, _, rfl, run_takeDeferred (by exact hK2), ?_⟩⟩
      refine ⟨.tuple #[.agg #[.int .i64 (fval s 0), .int .i64 (fval s 1), .int .i64 (fval s 3), .string (s.extract 8 s.size)], .nilIface], res_cell_tmp Tryd.results29 (g := w.heap.size) (t := 33) (cs := #[.int .i64 (fval s 0), .int .i64 (fval s 1), .int .i64 (fval s 3), .string (s.extract 8 s.size)]) (fr := (0, 0)) ((World.putObj_heap_other (by omega)).trans (by exact hY2)) rfl Tryd.underlying33 rfl (by kernel_rfl), below_put (by exact hB2.drew) (by omega) _, .inl ⟨h8, HKN.out, rfl⟩⟩
end Go.Proofs.YtloialpcdedekaaDoor.Ic
