/-
  The contract of the reference's Same.
-/
import Derived.Test.YtmgjcjacoegocaaDoorSgSame
import Derived.Test.YtmgjcjacoegocaaDoorSgDec2
import Derived.Test.YtmgjcjacoegocaaDoorLex
namespace Go.Proofs.YtmgjcjacoegocaaDoor.Sg
set_option maxRecDepth 100000
open Go.RowKit Go.Proofs.YtmgjcjacoegocaaDoor.Wire

def blE (x y : Seg) : Bool := x.bl == y.bl
def rest (x y : Seg) : Bool := x.fp == y.fp && x.tp == y.tp && x.sq == y.sq && x.ack == y.ack && x.syn == y.syn && x.fin == y.fin && x.rst == y.rst && x.ha == y.ha && x.win == y.win && x.mss == y.mss && x.sacks == y.sacks && x.s.toList == y.s.toList
def sameB (x y : Seg) : Bool := blE x y && rest x y
theorem sameB_iff (x y : Seg) : sameB x y = true ↔ x = y := by
  constructor
  · intro h
    obtain ⟨x0, x1, x2, x3, x4, x5, x6, x7, x8, x9, xa, xb, xs⟩ := x
    obtain ⟨y0, y1, y2, y3, y4, y5, y6, y7, y8, y9, ya, yb, ys⟩ := y
    simp only [sameB, blE, rest, Bool.and_eq_true, beq_iff_eq, ByteArray.toList_eq] at h
    obtain ⟨rfl, ⟨⟨⟨⟨⟨⟨⟨⟨⟨⟨⟨rfl, rfl⟩, rfl⟩, rfl⟩, rfl⟩, rfl⟩, rfl⟩, rfl⟩, rfl⟩, rfl⟩, rfl⟩, h⟩⟩ := h
    have : xs = ys := ByteArray.ext (Array.ext' h)
    rw [this]
  · rintro rfl; simp [sameB, blE, rest]
set_option maxRecDepth 100000 in
set_option maxHeartbeats 4000000 in
theorem rsame_any (x y : Seg) (A A' : Option Addr) (c c' : Nat) (w : World) (hn : x.bl.length ≤ 9223372036854775807) (hb : Bks w A x.bl.length x.bl) (hb' : Bks w A' y.bl.length y.bl) :
    Calls Tryd.prog 12 #[.agg #[.int .i64 x.fp, .int .i64 x.tp, .int .i64 x.sq, .int .i64 x.ack, .bool x.syn, .bool x.fin, .bool x.rst, .bool x.ha, .int .i64 x.win, .int .i64 x.mss, .bool x.sacks, .slice A x.bl.length c, .string x.s], .agg #[.int .i64 y.fp, .int .i64 y.tp, .int .i64 y.sq, .int .i64 y.ack, .bool y.syn, .bool y.fin, .bool y.rst, .bool y.ha, .int .i64 y.win, .int .i64 y.mss, .bool y.sacks, .slice A' y.bl.length c', .string y.s]] w fun e w' => e = .returned (.bool (sameB x y)) ∧ Below w.heap.size w w' := by
  have HB0 := Lib.hid hb; have HB1 := Lib.hid hb'; clear hb hb'
  have Hx := Lib.hid (block_alloc (alloc_new w (.cells #[.int .i64 x.fp, .int .i64 x.tp, .int .i64 x.sq, .int .i64 x.ack, .bool x.syn, .bool x.fin, .bool x.rst, .bool x.ha, .int .i64 x.win, .int .i64 x.mss, .bool x.sacks, .slice A x.bl.length c, .string x.s] 24)) (.cells #[.int .i64 y.fp, .int .i64 y.tp, .int .i64 y.sq, .int .i64 y.ack, .bool y.syn, .bool y.fin, .bool y.rst, .bool y.ha, .int .i64 y.win, .int .i64 y.mss, .bool y.sacks, .slice A' y.bl.length c', .string y.s] 24))
  have Hy := Lib.hid (alloc_new' (w.alloc (.cells #[.int .i64 x.fp, .int .i64 x.tp, .int .i64 x.sq, .int .i64 x.ack, .bool x.syn, .bool x.fin, .bool x.rst, .bool x.ha, .int .i64 x.win, .int .i64 x.mss, .bool x.sacks, .slice A x.bl.length c, .string x.s] 24)) (.cells #[.int .i64 y.fp, .int .i64 y.tp, .int .i64 y.sq, .int .i64 y.ack, .bool y.syn, .bool y.fin, .bool y.rst, .bool y.ha, .int .i64 y.win, .int .i64 y.mss, .bool y.sacks, .slice A' y.bl.length c', .string y.s] 24) (w.heap.size + 1) (by simp))
  have HB := below_alloc (o := .cells #[.int .i64 y.fp, .int .i64 y.tp, .int .i64 y.sq, .int .i64 y.ack, .bool y.syn, .bool y.fin, .bool y.rst, .bool y.ha, .int .i64 y.win, .int .i64 y.mss, .bool y.sacks, .slice A' y.bl.length c', .string y.s] 24) (below_alloc (o := .cells #[.int .i64 x.fp, .int .i64 x.tp, .int .i64 x.sq, .int .i64 x.ack, .bool x.syn, .bool x.fin, .bool x.rst, .bool x.ha, .int .i64 x.win, .int .i64 x.mss, .bool x.sacks, .slice A x.bl.length c, .string x.s] 24) (Below.refl w.heap.size w))
  have hs : Hid (sameB x y = (blE x y && rest x y)) := Lib.hid rfl
  by_cases hne : x.bl.length = y.bl.length
  · have HNE := Lib.hid hne; have e1 : ((x.bl.length : Int) != (y.bl.length : Int)) = false := by simp; omega
    have e2 : (x.bl.length != y.bl.length) = false := by simp; omega
    clear hne
    go_enter Tryd.func12, Tryd.ntmps12
    go_wp2_with fail
    go_loopw [5] (fun i wr => ∃ k : Nat, k ≤ x.bl.length ∧ i = .int .i64 (k : Int) ∧ (∀ (j : Nat), j < k → x.bl[j]? = y.bl[j]?) ∧ wr.heap[w.heap.size]? = some (.cells #[.int .i64 x.fp, .int .i64 x.tp, .int .i64 x.sq, .int .i64 x.ack, .bool x.syn, .bool x.fin, .bool x.rst, .bool x.ha, .int .i64 x.win, .int .i64 x.mss, .bool x.sacks, .slice A x.bl.length c, .string x.s] 24 (0, 0)) ∧ wr.heap[w.heap.size + 1]? = some (.cells #[.int .i64 y.fp, .int .i64 y.tp, .int .i64 y.sq, .int .i64 y.ack, .bool y.syn, .bool y.fin, .bool y.rst, .bool y.ha, .int .i64 y.win, .int .i64 y.mss, .bool y.sacks, .slice A' y.bl.length c', .string y.s] 24 (0, 0)) ∧ Below w.heap.size w wr) (fun i _ => x.bl.length - (intOf i).toNat)
    case atStart => exact ⟨0, by omega, rfl, fun j hj => by omega, Hx.out, Hy.out, HB⟩
    case round =>
      clear HB Hx Hy e1 e2
      obtain ⟨k, hk, rfl, hok, hX, hY, HB⟩ := hrel
      have HO := Lib.hid hok; clear hok
      have Hx := Lib.hid hX; have Hy := Lib.hid hY; clear hX hY
      have lt_y := blk_lt Hy.out
      by_cases hlt : k < x.bl.length
      · obtain ⟨g, a, b, rfl, hx, hg, c0, c1⟩ := HB0.out.at_ k hlt
        obtain ⟨g', a', b', rfl, hx', hg', c0', c1'⟩ := HB1.out.at_ k (by rw [← HNE.out]; exact hlt)
        have HX := Lib.hid hx; have HX' := Lib.hid hx'; clear hx hx'
        have d0 := (HB.cell (p := ⟨g, k * 2, none⟩) hg).trans c0
        have d1 := (HB.cell (p := ⟨g, k * 2 + 1, none⟩) hg).trans c1
        have d2 := (HB.cell (p := ⟨g', k * 2, none⟩) hg').trans c0'
        have d3 := (HB.cell (p := ⟨g', k * 2 + 1, none⟩) hg').trans c1'
        clear c0 c1 c0' c1'
        have k1 : (0 : Int) ≤ (k : Int) := by omega
        have k2 : (k : Int) < (x.bl.length : Int) := by omega
        have k3 : (k : Int) < (y.bl.length : Int) := by have := HNE.out; omega
        have qx11 := (cell_of_block (k := 11) Hx.out rfl).1
        have qy11 := (cell_of_block (k := 11) Hy.out rfl).1
        by_cases q1 : a = a' ∧ b = b'
        · obtain ⟨rfl, rfl⟩ := q1
          go_wp2_with fail
          go_quiet (fail)
          go_wp2_with fail
          go_roundw
          case rel => exact ⟨k + 1, by omega, by go_num, fun j hj => by
            rcases Nat.lt_succ_iff_lt_or_eq.1 hj with q | q
            · exact HO.out j q
            · subst q; rw [HX.out, HX'.out], Hx.out, Hy.out, below_drewN HB _⟩
          case measure => simp [intOf]; omega
        · have hF : Hid (sameB x y = false) := Lib.hid (by
            rw [hs.out]
            have : blE x y = false := beq_eq_false_iff_ne.2 fun q => q1 (by have h1 := HX.out; have h2 := HX'.out; rw [q, h2] at h1; have h3 := Option.some.inj h1; exact ⟨(congrArg Prod.fst h3).symm, (congrArg Prod.snd h3).symm⟩)
            rw [this]; rfl)
          have e3 : (a == a' && b == b') = false := by
            rw [Bool.and_eq_false_iff, beq_eq_false_iff_ne, beq_eq_false_iff_ne]
            by_cases q : a = a'
            · exact .inr fun z => q1 ⟨q, z⟩
            · exact .inl q
          have e4 : (a == a') = false ∨ ((a == a') = true ∧ (b == b') = false) := by
            by_cases q : a = a'
            · exact .inr ⟨beq_iff_eq.2 q, beq_eq_false_iff_ne.2 fun z => q1 ⟨q, z⟩⟩
            · exact .inl (beq_eq_false_iff_ne.2 q)
          clear q1 e3
          rcases e4 with e4 | ⟨e4, e5⟩
          all_goals
            go_wp2_with fail
            go_quiet (fail)
            go_wp2_with fail
            go_ret
            exact ⟨ret_bool hF.out.symm, below_drewN HB _⟩
      · have hkn : k = x.bl.length := by omega
        have hT : Hid (blE x y = true) := Lib.hid (beq_iff_eq.2 (eq_of_take (n := x.bl.length) rfl HNE.out.symm fun j hj => HO.out j (by omega)))
        clear HB0 HB1 HO
        generalize blE x y = ble at *
        have qx11 := (cell_of_block (k := 11) Hx.out rfl).1
        have qx0 := (cell_of_block (k := 0) Hx.out rfl).1; have qx1 := (cell_of_block (k := 1) Hx.out rfl).1; have qx2 := (cell_of_block (k := 2) Hx.out rfl).1; have qx3 := (cell_of_block (k := 3) Hx.out rfl).1; have qx4 := (cell_of_block (k := 4) Hx.out rfl).1; have qx5 := (cell_of_block (k := 5) Hx.out rfl).1; have qx6 := (cell_of_block (k := 6) Hx.out rfl).1; have qx7 := (cell_of_block (k := 7) Hx.out rfl).1; have qx8 := (cell_of_block (k := 8) Hx.out rfl).1; have qx9 := (cell_of_block (k := 9) Hx.out rfl).1; have qx10 := (cell_of_block (k := 10) Hx.out rfl).1; have qx12 := (cell_of_block (k := 12) Hx.out rfl).1
        have qy0 := (cell_of_block (k := 0) Hy.out rfl).1; have qy1 := (cell_of_block (k := 1) Hy.out rfl).1; have qy2 := (cell_of_block (k := 2) Hy.out rfl).1; have qy3 := (cell_of_block (k := 3) Hy.out rfl).1; have qy4 := (cell_of_block (k := 4) Hy.out rfl).1; have qy5 := (cell_of_block (k := 5) Hy.out rfl).1; have qy6 := (cell_of_block (k := 6) Hy.out rfl).1; have qy7 := (cell_of_block (k := 7) Hy.out rfl).1; have qy8 := (cell_of_block (k := 8) Hy.out rfl).1; have qy9 := (cell_of_block (k := 9) Hy.out rfl).1; have qy10 := (cell_of_block (k := 10) Hy.out rfl).1; have qy12 := (cell_of_block (k := 12) Hy.out rfl).1
        go_upto_region 8 with fail
        simp only [List.append_eq, List.cons_append, List.nil_append]
        cases e20 : (x.fp == y.fp)
        · have tok := trivial
          go_wp2_with fail
          go_ret
          exact ⟨ret_bool (by rw [hs.out, hT.out]; unfold rest; rw [e20]; rfl), HB⟩
        · have tok := trivial
          cases e21 : (x.tp == y.tp)
          · have tok := trivial
            go_wp2_with fail
            go_ret
            exact ⟨ret_bool (by rw [hs.out, hT.out]; unfold rest; rw [e20, e21]; rfl), HB⟩
          · have tok := trivial
            cases e22 : (x.sq == y.sq)
            · have tok := trivial
              go_wp2_with fail
              go_ret
              exact ⟨ret_bool (by rw [hs.out, hT.out]; unfold rest; rw [e20, e21, e22]; rfl), HB⟩
            · have tok := trivial
              cases e23 : (x.ack == y.ack)
              · have tok := trivial
                go_wp2_with fail
                go_ret
                exact ⟨ret_bool (by rw [hs.out, hT.out]; unfold rest; rw [e20, e21, e22, e23]; rfl), HB⟩
              · have tok := trivial
                cases e24 : (x.syn == y.syn)
                · have tok := trivial
                  go_wp2_with fail
                  go_ret
                  exact ⟨ret_bool (by rw [hs.out, hT.out]; unfold rest; rw [e20, e21, e22, e23, e24]; rfl), HB⟩
                · have tok := trivial
                  cases e25 : (x.fin == y.fin)
                  · have tok := trivial
                    go_wp2_with fail
                    go_ret
                    exact ⟨ret_bool (by rw [hs.out, hT.out]; unfold rest; rw [e20, e21, e22, e23, e24, e25]; rfl), HB⟩
                  · have tok := trivial
                    cases e26 : (x.rst == y.rst)
                    · have tok := trivial
                      go_wp2_with fail
                      go_ret
                      exact ⟨ret_bool (by rw [hs.out, hT.out]; unfold rest; rw [e20, e21, e22, e23, e24, e25, e26]; rfl), HB⟩
                    · have tok := trivial
                      cases e27 : (x.ha == y.ha)
                      · have tok := trivial
                        go_wp2_with fail
                        go_ret
                        exact ⟨ret_bool (by rw [hs.out, hT.out]; unfold rest; rw [e20, e21, e22, e23, e24, e25, e26, e27]; rfl), HB⟩
                      · have tok := trivial
                        cases e28 : (x.win == y.win)
                        · have tok := trivial
                          go_wp2_with fail
                          go_ret
                          exact ⟨ret_bool (by rw [hs.out, hT.out]; unfold rest; rw [e20, e21, e22, e23, e24, e25, e26, e27, e28]; rfl), HB⟩
                        · have tok := trivial
                          cases e29 : (x.mss == y.mss)
                          · have tok := trivial
                            go_wp2_with fail
                            go_ret
                            exact ⟨ret_bool (by rw [hs.out, hT.out]; unfold rest; rw [e20, e21, e22, e23, e24, e25, e26, e27, e28, e29]; rfl), HB⟩
                          · have tok := trivial
                            cases e30 : (x.sacks == y.sacks)
                            · have tok := trivial
                              go_wp2_with fail
                              go_ret
                              exact ⟨ret_bool (by rw [hs.out, hT.out]; unfold rest; rw [e20, e21, e22, e23, e24, e25, e26, e27, e28, e29, e30]; rfl), HB⟩
                            · have tok := trivial
                              cases e31 : (x.s.toList == y.s.toList)
                              · have tok := trivial
                                go_wp2_with fail
                                go_ret
                                exact ⟨ret_bool (by rw [hs.out, hT.out]; unfold rest; rw [e20, e21, e22, e23, e24, e25, e26, e27, e28, e29, e30, e31]; rfl), HB⟩
                              · have tok := trivial
                                go_wp2_with fail
                                go_ret
                                exact ⟨ret_bool (by rw [hs.out, hT.out]; unfold rest; rw [e20, e21, e22, e23, e24, e25, e26, e27, e28, e29, e30, e31]; rfl), HB⟩
  · have hF : Hid (sameB x y = false) := Lib.hid (by
      rw [hs.out]
      have : blE x y = false := beq_eq_false_iff_ne.2 fun q => hne (by rw [q])
      rw [this]; rfl)
    have e1 : ((x.bl.length : Int) != (y.bl.length : Int)) = true := by simp; omega
    have e2 : (x.bl.length != y.bl.length) = true := by simp; omega
    clear hne
    go_enter Tryd.func12, Tryd.ntmps12
    go_wp2_with fail
    go_ret
    exact ⟨ret_bool hF.out.symm, HB⟩
end Go.Proofs.YtmgjcjacoegocaaDoor.Sg
