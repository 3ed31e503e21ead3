/-
  A builder that lies at the head of package dns's writer: WriteString, String; and WriteByte of a builder that lies alone. The proofs follow the library's own, with this program's numbers.
-/
import Derived.Test.YtmgjcjacoegocaaGreatDoorBase2
import Derived.Shelf.RegionOpen
import Derived.RangeFuncOwn
import Derived.Lib.UnsafeStr
namespace Go.Proofs.YtmgjcjacoegocaaGreatDoor.Dn
set_option maxRecDepth 100000
open Go.RowKit Go.Proofs.YtmgjcjacoegocaaGreatDoor.Wire

/-- the writer in block b holds the bytes l; f: has it failed? -/
structure IsW (B b : Nat) (l : List UInt8) (f : Bool) (W : World) : Prop where
  le : B ≤ b
  ex : ∃ p v, (p = .pointer none ∨ p = .pointer (some ⟨b, 0, none⟩)) ∧ W.heap[b]? = some (.cells #[p, v, .bool f] 109 (0, 0)) ∧ W.ownsRow B 5 1 v l.length (Lib.byteCells l) ∧ v.ownBlock ≠ some b
theorem IsW.lt {B b l f W} (h : IsW B b l f W) : b < W.heap.size := by
  obtain ⟨p, v, -, hb, -⟩ := h.ex
  exact blk_lt hb
theorem IsW.below {B b l f W W'} (h : IsW B b l f W) (hb : Below W.heap.size W W') : IsW B b l f W' := by
  obtain ⟨p, v, hp, hk, hown, hne⟩ := h.ex
  exact ⟨h.le, p, v, hp, bblock hb hk, hown.kept (grown_of_below hb) (by cases v.ownBlock <;> simp), hne⟩
theorem IsW.new (W : World) : IsW W.heap.size W.heap.size [] false (W.alloc (.cells #[.pointer none, .slice none 0 0, .bool false] 109)) :=
  ⟨Nat.le_refl _, _, _, .inl rfl, alloc_new _ _, ⟨rfl, .inl ⟨rfl, rfl⟩⟩, by simp [Value.ownBlock]⟩
/-- nothing but block b and rows of bytes has changed -/
def KW (b : Nat) (w w' : World) : Prop := w.heap.size ≤ w'.heap.size ∧ ∀ k o, w.heap[k]? = some o → k ≠ b → (∀ c f, o ≠ .cells c 5 f) → w'.heap[k]? = some o
theorem KW.refl (b : Nat) (w : World) : KW b w w := ⟨Nat.le_refl _, fun _ _ h _ _ => h⟩
theorem KW.trans {b : Nat} {w w1 w2 : World} (h : KW b w w1) (k : KW b w1 w2) : KW b w w2 := ⟨Nat.le_trans h.1 k.1, fun i o hi hb ho => k.2 i o (h.2 i o hi hb ho) hb ho⟩
theorem KW.of_below {b : Nat} {w w' : World} (h : Below w.heap.size w w') : KW b w w' := ⟨h.size, fun _ _ hk _ _ => bblock h hk⟩
theorem KW.setCell (b o : Nat) (w : World) (v : Value) : KW b w (w.setCell ⟨b, o, none⟩ v) := ⟨by simp [World.setCell], fun k _ hk hb _ => (Below.heap_setCell w _ v k (by rintro rfl; exact hb rfl)).trans hk⟩
theorem KW.others {b : Nat} {w w' : World} {c : Array Value} {t : TypeId} (h : KW b w w') (hb : w.heap[b]? = some (.cells c t (0, 0))) : KeepsOthers w w' := ⟨h.1, fun k o hk ho => h.2 k o hk (by
    rintro rfl
    rw [hb] at hk
    injection hk with hk
    subst hk
    cases ho) (by
    rintro c f rfl
    cases ho)⟩
theorem IsW.cells {B b l f W} (h : IsW B b l f W) : ∃ c, W.heap[b]? = some (.cells c 109 (0, 0)) := by
  obtain ⟨p, v, -, hb, -⟩ := h.ex
  exact ⟨_, hb⟩
theorem sizeBld : (Tryz.prog.info? 107).map (·.size) = some 2 := by kernel_rfl
theorem liesW : liesAt Tryz.prog Tryz.prog.depth 109 (3 / Tryz.prog.cellsOf 109) 0 107 1 = true := by kernel_rfl
set_option maxHeartbeats 1000000 in
theorem fresh_w (b : Nat) (w : World) (h0 : w.cell? ⟨b, 0, none⟩ = some (.pointer none)) (hsh : w.shape? b = some (109, 3)) (hfz : w.frozen? ⟨b, 0, none⟩ = false) :
    Calls Tryz.prog 106 #[.pointer (some ⟨b, 0, none⟩)] w fun e w' => e = .returned (.tuple #[]) ∧ w' = w.setCell ⟨b, 0, none⟩ (.pointer (some ⟨b, 0, none⟩)) := by
  obtain ⟨j, hj, hjs⟩ := Option.map_eq_some_iff.1 sizeBld
  go_enter Tryz.func106, Tryz.ntmps106
  go_wp2
  rw [Lib.run_to_unsafe w ⟨b, 0, none⟩ Tryz.underlying104 Tryz.underlying254 hj (by rw [hjs]; decide) hsh (Nat.zero_lt_succ 2)]
  simp only [Result.andThen]
  rw [Oper.upon_value]
  go_wp2
  rw [run_callFunc_extern Tryz.func124 (by kernel_rfl) (by kernel_rfl) (by kernel_rfl) (e := Extern.AbiNoEscape.same) (by kernel_rfl)]
  rw [Lib.run_noEscape]
  simp only [Result.andThen]
  rw [Oper.upon_value]
  go_wp2
  rw [Lib.run_from_unsafe w ⟨b, 0, none⟩ Tryz.underlying254 Tryz.underlying104 hj hsh liesW]
  simp only [Result.andThen]
  rw [Oper.upon_value]
  go_wp2
  go_end0
  exact ⟨rfl, rfl⟩
theorem copy_w (B b : Nat) (l : List UInt8) (f : Bool) (w : World) (h : IsW B b l f w) :
    Calls Tryz.prog 106 #[.pointer (some ⟨b, 0, none⟩)] w fun e w' => e = .returned (.tuple #[]) ∧ (∃ v, w'.heap[b]? = some (.cells #[.pointer (some ⟨b, 0, none⟩), v, .bool f] 109 (0, 0)) ∧ w'.ownsRow B 5 1 v l.length (Lib.byteCells l) ∧ v.ownBlock ≠ some b) ∧ Below B w w' ∧ KW b w w' := by
  obtain ⟨p, v, hp, hk, hown, hne⟩ := h.ex
  rcases hp with rfl | rfl
  · refine (fresh_w b w (cell_of_block (k := 0) hk rfl).1 (by simp [World.shape?, hk]) (cell_of_block (k := 0) hk rfl).2).mono ?_
    rintro e w' ⟨rfl, rfl⟩
    refine ⟨rfl, ⟨v, cells_eq (block_setCell (k := 0) hk) rfl, ?_, hne⟩, (Below.refl B w).setCell (p := ⟨b, 0, none⟩) h.le _, KW.setCell b 0 w _⟩
    exact hown.kept (row := some b) ⟨rfl, rfl, rfl, by simp [World.setCell], fun k _ hk => Below.heap_setCell _ _ _ _ (fun e => hk (by simp [e]))⟩ (Or.inr hne)
  · refine (Bld.used_any b w (cell_of_block (k := 0) hk rfl).1).mono ?_
    rintro e w' ⟨rfl, rfl⟩
    exact ⟨rfl, ⟨v, hk, hown, hne⟩, Below.refl B _, KW.refl b _⟩
set_option maxHeartbeats 2000000 in
theorem write_w (B b : Nat) (l : List UInt8) (f : Bool) (s : ByteArray) (w : World) (h : IsW B b l f w) (hlen : l.length + s.size ≤ 1000000) (hBw : B ≤ w.heap.size) :
    Calls Tryz.prog 74 #[.pointer (some ⟨b, 0, none⟩), .string s] w fun e w' => e = .returned (.tuple #[.int .i64 s.size, .nilIface]) ∧ IsW B b (l ++ s.data.toList) f w' ∧ Below B w w' ∧ KW b w w' := by
  obtain ⟨i0, hi, hz0, hz1, hz2⟩ := info_parts Bld.infoByte
  go_enter Tryz.func74, Tryz.ntmps74
  go_wp2_with (go_at_call 106; refine (copy_w B b l f _ h).mono ?_)
  rintro e w1 ⟨rfl, ⟨v, hbk, hown, hne⟩, hb1, hk1⟩
  have hB := h.le
  have c0 := (cell_of_block (k := 0) hbk rfl).1
  have c1 := (cell_of_block (k := 1) hbk rfl).1
  have hown' : w1.ownsRow B 5 1 v (Lib.byteCells l).length (Lib.byteCells l) := by rw [Lib.byteCells_length]; exact hown
  have hLL : (Lib.byteCells l).length = l.length := Lib.byteCells_length l
  go_wp2_with (at_builtin; refine Lib.wpList_append_own_string _ rfl _ _ 105 9 rfl B 5 i0 Tryz.underlying105 Tryz.underlying9 hi hz0 hz1 hz2 _ _ _ rfl hown' s rfl ?c3 ?c4 ?c5 ?_)
  case c3 => unfold maxLen; omega
  case c4 => omega
  case c5 => have := hb1.size; omega
  intro v' w2 hown2 hgrow _
  have hlt : b < w1.heap.size := blk_lt hbk
  have hb2 : w2.heap[b]? = some (.cells #[.pointer (some ⟨b, 0, none⟩), v, .bool f] 109 (0, 0)) := by
    rw [hgrow.block b hlt (fun e => hne e.symm)]
    exact hbk
  have d0 := (cell_of_block (k := 0) hb2 rfl).1
  have d1 := (cell_of_block (k := 1) hb2 rfl).1
  have f1 := (cell_of_block (k := 1) hb2 rfl).2
  obtain ⟨ao, n', cap, rfl⟩ : ∃ ao n' cap, v' = .slice ao n' cap := by
    rcases hown2.2 with ⟨hv, _⟩ | ⟨g, cap, cur, hv, _⟩
    · exact ⟨_, _, _, hv⟩
    · exact ⟨_, _, _, hv⟩
  go_wp2
  go_ret2
  have e1 : Lib.byteCells (l ++ s.data.toList) = Lib.byteCells l ++ Lib.strCells s := by simp [Lib.byteCells, Lib.strCells]
  have hown3 : w2.ownsRow B 5 1 (.slice ao n' cap) (l ++ s.data.toList).length (Lib.byteCells (l ++ s.data.toList)) := by
    have e2 : (l ++ s.data.toList).length = (Lib.byteCells l).length + s.size := by rw [List.length_append, hLL]; rfl
    rw [e1, e2, hLL]; simpa [Lib.strCells_length] using hown2
  have hne3 : Value.ownBlock (.slice ao n' cap) ≠ some b := by
    intro e
    rcases hown3.2 with ⟨hv, _⟩ | ⟨g, cp, cur, hv, -, hg, -⟩
    · injection hv with hv1; subst hv1; simp [Value.ownBlock] at e
    · injection hv with hv1; subst hv1
      simp [Value.ownBlock] at e
      subst e
      rw [hg] at hb2
      injection hb2 with hb3
      injection hb3 with _ hb4
      exact absurd hb4 (by decide)
  have hk2 : KW b w1 w2 := ⟨hgrow.size, fun k o hk hkb ho => (hgrow.block k (Array.getElem?_eq_some_iff.1 hk |>.1) (fun e => by
    rcases hown.2 with ⟨hv, -⟩ | ⟨g, cp, cur, hv, -, hg, -⟩
    · subst hv; simp [Value.ownBlock] at e
    · subst hv
      simp [Value.ownBlock] at e
      subst e
      rw [hg] at hk
      injection hk with hk
      exact ho _ _ hk.symm)).trans hk⟩
  refine ⟨rfl, ⟨hB, _, _, .inr rfl, cells_eq (block_setCell (k := 1) hb2) rfl, ?_, hne3⟩, ?_, hk1.trans (hk2.trans (KW.setCell b 1 w2 _))⟩
  · exact hown3.kept (row := some b) ⟨rfl, rfl, rfl, by simp [World.setCell], fun k _ hk => Below.heap_setCell _ _ _ _ (fun e => hk (by simp [e]))⟩ (Or.inr hne3)
  · exact (hb1.grown hgrow (by have := hb1.size; omega) (fun k hk => (hown.lt k hk).1)).setCell (p := ⟨b, 1, none⟩) hB _
theorem cellsByte : Tryz.prog.cellsOf 5 = 1 := by kernel_rfl
set_option maxHeartbeats 2000000 in
theorem string_w (B b : Nat) (l : List UInt8) (f : Bool) (w : World) (h : IsW B b l f w) (h0 : l ≠ []) :
    Calls Tryz.prog 39 #[.pointer (some ⟨b, 0, none⟩)] w fun e w' => e = .returned (.string ⟨l.toArray⟩) ∧ Below B w w' := by
  obtain ⟨p, v, -, hbk, hown, hne⟩ := h.ex
  have hl0 : l.length ≠ 0 := by simpa using h0
  obtain ⟨g, cap, cur, rfl, hbg, hg, hnc, hcm, hcs, htake⟩ : ∃ g cap cur, v = .slice (some ⟨g, 0, none⟩) l.length cap ∧ B ≤ g ∧ w.heap[g]? = some (.cells cur 5 (0, 0)) ∧ l.length ≤ cap ∧ cap ≤ maxLen ∧ cur.size = cap * 1 ∧ cur.toList.take (l.length * 1) = Lib.byteCells l := by
    rcases hown.2 with ⟨_, hz⟩ | ⟨g, cap, cur, hv, r⟩
    · exact absurd hz hl0
    · exact ⟨g, cap, cur, hv, r⟩
  have c1 : w.drew.cell? ⟨b, 1, none⟩ = some (.slice (some ⟨g, 0, none⟩) l.length cap) := by
    have : w.drew.heap[b]? = some (.cells #[p, .slice (some ⟨g, 0, none⟩) l.length cap, .bool f] 109 (0, 0)) := hbk
    exact (cell_of_block (k := 1) this rfl).1
  have hSD : (Builtin.unsafeSliceData_ #[105] 199 #[.slice (some ⟨g, 0, none⟩) l.length cap]).run Tryz.prog w.drew = .ok (.pointer (some ⟨g, 0, none⟩)) w.drew :=
    Lib.run_unsafeSliceData_row _ _ _ _ _ _ (by omega)
  have hUS : (Builtin.unsafeString_ #[199, 3] 9 #[.pointer (some ⟨g, 0, none⟩), .int .i64 l.length]).run Tryz.prog w.drew = .ok (.string ⟨l.toArray⟩) (w.drew.freeze ⟨g, 0, none⟩ l.length) := by
    refine Lib.run_unsafeString_row w.drew 199 3 9 5 Tryz.underlying199 cellsByte g cur.size (by have hg' : w.drew.heap[g]? = some (.cells cur 5 (0, 0)) := hg; simp [World.shape?, hg']) l h0 (by omega) (by unfold maxLen at hcm; omega) ?_
    intro j x hx
    have := hown.cells (g := g) rfl j (.int .u8 x.toNat) (by simp [Lib.byteCells, hx])
    exact this
  have mixed : Tryz.prog.follows Departure.mixedOrders = true := by kernel_rfl
  go_enter Tryz.func39, Tryz.ntmps39
  go_wp2
  go_region_o
  all_goals (go_wp2; go_ret; exact ⟨rfl, Lib.below_freeze (Below.drew (Below.refl B w)) (p := ⟨g, 0, none⟩) hbg _⟩)
set_option maxHeartbeats 2000000 in
theorem byte_any (B b : Nat) (l : List UInt8) (c : UInt8) (w : World) (h : IsB B b l w) (hlen : l.length + 1 ≤ 1000000) (hBw : B ≤ w.heap.size) :
    Calls Tryz.prog 120 #[.pointer (some ⟨b, 0, none⟩), .int .u8 (c.toNat : Int)] w fun e w' => e = .returned .nilIface ∧ IsB B b (l ++ [c]) w' ∧ Below B w w' := by
  obtain ⟨i0, hi, hz0, hz1, hz2⟩ := info_parts Bld.infoByte
  go_enter Tryz.func120, Tryz.ntmps120
  go_wp2_with (go_at_call 106; refine (Bld.copyCheck_any B b (Lib.byteCells l) _ h).mono ?_)
  rintro e w1 ⟨rfl, h1, hb1⟩
  obtain ⟨hB, v, hbk, hown, hne⟩ := h1
  have c0 : w1.cell? ⟨b, 0, none⟩ = some (.pointer (some ⟨b, 0, none⟩)) := by rw [Lib.cell_of_heap hbk]; rfl
  have c1 : w1.cell? ⟨b, 1, none⟩ = some v := by rw [Lib.cell_of_heap hbk]; rfl
  have hLL : (Lib.byteCells l).length = l.length := Lib.byteCells_length l
  go_wp2_with (at_builtin; refine wpList_append_own _ rfl _ _ 105 rfl B 5 i0 (.int .u8 0) 1 1 Tryz.underlying105 hi hz0 hz1 hz2 rfl (by decide) _ _ _ rfl (hown.alloc _) ⟨w1.heap.size, 0, none⟩ 1 1 [.int .u8 (c.toNat : Int)] rfl rfl ?c1 ?c2 ?c3 ?c4 ?c5 ?_)
  case c1 =>
    intro j u hj
    match j, hj with
    | 0, hj => simp at hj; subst hj; simp [Addr.add]
  case c2 => intro u hu; simp at hu; subst hu; rfl
  case c3 => unfold maxLen; omega
  case c4 => omega
  case c5 => have := hb1.size; simp; omega
  intro v' w2 hown' hgrow _
  have hlt : b < w1.heap.size := blk_lt hbk
  have hb2 : w2.heap[b]? = some (.cells #[.pointer (some ⟨b, 0, none⟩), v] 107 (0, 0)) := by
    rw [hgrow.block b (by simp; omega) (fun e => hne e.symm), Lib.alloc_old w1 _ b hlt]
    exact hbk
  have d0 : w2.cell? ⟨b, 0, none⟩ = some (.pointer (some ⟨b, 0, none⟩)) := by rw [Lib.cell_of_heap hb2]; rfl
  have d1 : w2.cell? ⟨b, 1, none⟩ = some v := by rw [Lib.cell_of_heap hb2]; rfl
  have f1 : w2.frozen? ⟨b, 1, none⟩ = false := Lib.frozen_of_heap hb2 1
  obtain ⟨g, cap, rfl⟩ : ∃ g cap, v' = .slice (some ⟨g, 0, none⟩) (l.length + 1) cap := by
    rcases hown'.2 with ⟨_, h0⟩ | ⟨g, cap, cur, hv, _⟩
    · omega
    · exact ⟨g, cap, hv⟩
  go_wp2
  go_ret
  have e1 : Lib.byteCells (l ++ [c]) = Lib.byteCells l ++ [.int .u8 (c.toNat : Int)] := by simp [Lib.byteCells]
  refine ⟨rfl, .inr ?_, ?_⟩
  · rw [e1]
    exact Lib.BuilderAt.put (T := 107) (e := 5) hB hb2 (bs' := Lib.byteCells l ++ [.int .u8 (c.toNat : Int)]) (by rw [List.length_append, hLL]; exact hown') (by decide)
  · exact ((hb1.alloc (by have := hb1.size; omega) _).grown hgrow (by have := hb1.size; simp; omega) (fun k hk => (hown.lt k hk).1)).setCell (p := ⟨b, 1, none⟩) hB _
theorem len_any (B b : Nat) (l : List UInt8) (w : World) (h : IsB B b l w) :
    Calls Tryz.prog 119 #[.pointer (some ⟨b, 0, none⟩)] w fun e w' => e = .returned (.int .i64 (l.length : Int)) ∧ w = w' := by
  refine (Tryz.Builder_Len B b (Lib.byteCells l) w h).mono ?_
  rintro e w' ⟨rfl, rfl⟩
  exact ⟨by rw [Lib.byteCells_length], rfl⟩
end Go.Proofs.YtmgjcjacoegocaaGreatDoor.Dn
