/-
  The contract of cut of the laws of chapter 19.
-/
import Derived.Test.YthdggmigjddneaaDnArgR
import Derived.Test.YthdggmigjddneaaDnLaw0
import Derived.IntWalk
namespace Go.Proofs.Ythdggmigjddneaa.Dn
set_option maxRecDepth 100000
open Go.RowKit Go.Proofs.Ythdggmigjddneaa.Wire Go.Proofs.Ythdggmigjddneaa.Rw Go.Deep

theorem flat_set {α : Type} {k : Nat} {enc : α → List Value} (hk : ∀ x, (enc x).length = k) : ∀ (l : List α) (i r : Nat) (x' : α) (v : Value) (hi : i < l.length), r < k → enc x' = (enc l[i]).set r v → (l.flatMap enc).set (i * k + r) v = (l.set i x').flatMap enc
  | [], i, _, _, _, hi, _, _ => by simp at hi
  | a :: l, 0, r, x', v, _, hr, h => by
    simp only [List.getElem_cons_zero] at h
    rw [List.flatMap_cons, Nat.zero_mul, Nat.zero_add, List.set_append_left _ _ (by rw [hk]; exact hr), List.set_cons_zero, List.flatMap_cons, h]
  | a :: l, i + 1, r, x', v, hi, hr, h => by
    simp only [List.getElem_cons_succ] at h
    rw [List.flatMap_cons, List.set_append_right _ _ (by rw [hk, Nat.succ_mul]; omega), hk, show (i + 1) * k + r - k = i * k + r from by rw [Nat.succ_mul]; omega, flat_set hk l i r x' v (by simpa using hi) hr h, List.set_cons_succ, List.flatMap_cons]
theorem RRow.set {W : World} {lo g c : Nat} {l : List Rec} (h : RRow W lo (some ⟨g, 0, none⟩) c l) {i : Nat} (hi : i < l.length) {r : Nat} (hr : r < 5) (x' : Rec) (v : Value) (hx : rcells x' = (rcells l[i]).set r v) :
    RRow (W.setCell ⟨g, i * 5 + r, none⟩ v) lo (some ⟨g, 0, none⟩) c (l.set i x') := by
  have := (World.ownsRow.stored h (i * 5 + r) v).1
  rw [flat_set rcells_len l i r x' v hi hr hx] at this
  unfold RRow SRow
  rw [List.length_set]
  exact this
theorem RRow.frozen {W : World} {lo g c : Nat} {l : List Rec} (h : RRow W lo (some ⟨g, 0, none⟩) c l) (j : Nat) : W.frozen? ⟨g, j, none⟩ = false := by
  rcases h.2 with ⟨e, -⟩ | ⟨g2, cap, cur, e, -, hg, -⟩
  · cases e
  · injection e with e1 e2 e3
    cases e1
    simp [World.frozen?, hg]
def rOf (x : RX) : Rec := ⟨x.nm.data.toList, x.kd, x.ttl, x.addr, x.dst.data.toList⟩
theorem rOf_cells (x : RX) : rcells (rOf x) = [.string x.nm, .int .i64 x.kd, .int .i64 x.ttl, .int .i64 x.addr, .string x.dst] := rfl
theorem xarg_lies {W : World} {A : Option Addr} {n : Nat} {l : List RX} (h : XArg W A n l) (m : Nat) (hm : m ≤ n) (h0 : 0 < m) : ∃ b o, A = some ⟨b, o, none⟩ ∧ b < W.heap.size ∧ ∀ j u, (((l.take m).map rOf).flatMap rcells)[j]? = some u → W.cell? ⟨b, o + j, none⟩ = some u := by
  obtain ⟨hl, -, -, hx⟩ := h
  obtain ⟨b, o, e, hb, hc⟩ := hx (by omega)
  refine ⟨b, o, e, hb, fun j u hj => ?_⟩
  have hlen : (((l.take m).map rOf).flatMap rcells).length = m * 5 := by rw [encs_length 5 rcells rcells_len]; simp; omega
  have hjl : j < m * 5 := by
    rcases Nat.lt_or_ge j (m * 5) with q | q
    · exact q
    · rw [List.getElem?_eq_none (by omega)] at hj; cases hj
  have hi : j / 5 < m := by omega
  have hil : j / 5 < l.length := by omega
  have e1 : ((l.take m).map rOf)[j / 5]? = some (rOf l[j / 5]) := by
    rw [List.getElem?_map, List.getElem?_take_of_lt hi, List.getElem?_eq_getElem hil]; rfl
  have e2 := encs_at 5 rcells rcells_len _ (j / 5) (j % 5) _ e1 (by omega)
  rw [show j / 5 * 5 + j % 5 = j from by omega, hj, rOf_cells] at e2
  obtain ⟨c0, c1, c2, c3, c4⟩ := hc (j / 5) l[j / 5] (List.getElem?_eq_getElem hil)
  generalize l[j / 5] = x at *
  have hr : j % 5 = 0 ∨ j % 5 = 1 ∨ j % 5 = 2 ∨ j % 5 = 3 ∨ j % 5 = 4 := by omega
  rcases hr with q | q | q | q | q
  all_goals
    rw [q] at e2
    simp only [List.getElem?_cons_zero, List.getElem?_cons_succ, Option.some.injEq] at e2
    subst e2
  · rw [show o + j = o + j / 5 * 5 from by omega]; exact c0
  · rw [show o + j = o + j / 5 * 5 + 1 from by omega]; exact c1
  · rw [show o + j = o + j / 5 * 5 + 2 from by omega]; exact c2
  · rw [show o + j = o + j / 5 * 5 + 3 from by omega]; exact c3
  · rw [show o + j = o + j / 5 * 5 + 4 from by omega]; exact c4
theorem xarg_none {W : World} {n : Nat} {l : List RX} (h : XArg W none n l) : n = 0 := by
  rcases Nat.eq_zero_or_pos n with q | q
  · exact q
  · obtain ⟨b, o, e, -⟩ := h.2.2.2 q
    cases e
theorem rc_one (l : List Rec) : ∀ u ∈ l.flatMap rcells, u.oneCell' = true := by
  intro u hu
  simp only [List.mem_flatMap, rcells] at hu
  obtain ⟨x, -, hx⟩ := hu
  simp at hx
  rcases hx with rfl | rfl | rfl | rfl | rfl <;> rfl
theorem open_recsC {H : Type} {enc : TypeId × Value → H} {W : World} {n : Nat} {v : Value} {y : DataW H × List MemPlace}
    (h : DataW.trod enc Try.prog W 0 (fun _ => true) true n 25 [v] = some y) : ∃ (A : Option Addr) (k c : Nat) (l : List RX), v = .slice A k c ∧ (k ≤ c ∧ XArg W A k l) := by
  obtain ⟨A, k, c, l, rfl, hx⟩ := open_recs h
  refine ⟨A, k, c, l, rfl, ?_, hx⟩
  rcases open_slice Try.underlying25 h with ⟨hv, -⟩ | ⟨a, len, cap, m, n', D, Pl, hv, -, hl, -⟩
  · simp only [List.cons.injEq, and_true] at hv
    injection hv with h1 h2 h3; omega
  · simp only [List.cons.injEq, and_true] at hv
    injection hv with h1 h2 h3; omega
structure CI (w : World) (id : Int) (ans : Bool) (code : Int) (nm : ByteArray) (kd : Int) (m : Nat) (A : Option Addr) (c k : Nat) (L : List Rec) (W : World) : Prop where
  x : W.heap[w.heap.size]? = some (.cells #[.int .i64 id, .bool ans, .int .i64 code, .string nm, .int .i64 kd, .slice A m c] 27 (0, 0))
  z : W.heap[w.heap.size + 1]? = some (.cells #[.int .i64 0, .bool false, .int .i64 0, .string ⟨#[]⟩, .int .i64 0, .slice none 0 0] 27 (0, 0))
  row : RRow W (w.heap.size + 2) A c L
  len : L.length = m
  fits : ∀ i (h : i < L.length), i < k → (L[i]'h).fits
  gr : Below w.heap.size w W
theorem CI.drew {w : World} {id : Int} {ans : Bool} {code : Int} {nm : ByteArray} {kd : Int} {m : Nat} {A : Option Addr} {c k : Nat} {L : List Rec} {W : World} (h : CI w id ans code nm kd m A c k L W) : CI w id ans code nm kd m A c k L W.drew := ⟨h.x, h.z, h.row, h.len, h.fits, h.gr.drew⟩
theorem CI.set {w : World} {id : Int} {ans : Bool} {code : Int} {nm : ByteArray} {kd : Int} {m g : Nat} {c k : Nat} {L : List Rec} {W : World} (h : CI w id ans code nm kd m (some ⟨g, 0, none⟩) c k L W) (hk : k < L.length) (r : Nat) (hr : r < 5) (x' : Rec) (v : Value) (hx : rcells x' = (rcells L[k]).set r v) :
    CI w id ans code nm kd m (some ⟨g, 0, none⟩) c k (L.set k x') (W.setCell ⟨g, k * 5 + r, none⟩ v) := by
  have hg := (h.row.bk rfl).1
  dsimp only at hg
  refine ⟨block_set_other h.x (by show g ≠ _; omega), block_set_other h.z (by show g ≠ _; omega), h.row.set hk hr x' v hx, by rw [List.length_set]; exact h.len, fun i hi q => ?_, h.gr.setCell (by show w.heap.size ≤ g; omega) v⟩
  rw [List.length_set] at hi
  rw [List.getElem_set_ne (by omega)]
  exact h.fits i hi q
theorem CI.next {w : World} {id : Int} {ans : Bool} {code : Int} {nm : ByteArray} {kd : Int} {m : Nat} {A : Option Addr} {c k : Nat} {L : List Rec} {W : World} (h : CI w id ans code nm kd m A c k L W) (hf : ∀ hk : k < L.length, L[k].fits) : CI w id ans code nm kd m A c (k + 1) L W :=
  ⟨h.x, h.z, h.row, h.len, fun i hi q => (by
    by_cases e : i = k
    · subst e; exact hf hi
    · exact h.fits i hi (by omega)), h.gr⟩
theorem ext_len (s : List UInt8) : ((⟨s.toArray⟩ : ByteArray).extract 0 (min (s.length : Int) 70).toNat).data.toList.length ≤ 70 := by
  show ((⟨s.toArray⟩ : ByteArray).extract 0 (min (s.length : Int) 70).toNat).size ≤ 70
  rw [ByteArray.size_extract]; omega

set_option maxHeartbeats 16000000 in
theorem cutD_any (id code kd : Int) (ans : Bool) (nm : ByteArray) (A : Option Addr) (n c : Nat) (l : List RX) (w : World) (hnc : n ≤ c) (hA : XArg w A n l) :
    Calls Try.prog 11 #[.agg #[.int .i64 id, .bool ans, .int .i64 code, .string nm, .int .i64 kd, .slice A n c]] w fun e w' => ∃ (d : Msg) (A' : Option Addr) (c' : Nat), e = .returned (.agg #[.int .i64 d.id, .bool d.ans, .int .i64 d.code, .string ⟨d.nm.toArray⟩, .int .i64 d.kd, .slice A' d.recs.length c']) ∧ RRow w' w.heap.size A' c' d.recs ∧ (d.fits ∧ d.recs.length ≤ 10) ∧ Below w.heap.size w w' := by
  have hm : ∃ m : Nat, min (n : Int) 10 = (m : Int) ∧ m ≤ n ∧ m ≤ 10 := ⟨min n 10, by omega, by omega, by omega⟩
  obtain ⟨m, hm, hmn, hm10⟩ := hm
  have hmc : (m : Int) ≤ (c : Int) := by omega
  have hm0 : (0 : Int) ≤ (m : Int) := by omega
  have hk0 : (0 : Int) ≤ min (nm.size : Int) 70 := by omega
  have hk1 : min (nm.size : Int) 70 ≤ (nm.size : Int) := by omega
  have hml : ((l.take m).map rOf).length = m := by rw [List.length_map, List.length_take, hA.1]; omega
  have HXL := Lib.hid (xarg_lies hA m hmn)
  have hnn := xarg_none (W := w) (n := n) (l := l)
  have hnm70 : (nm.extract 0 (min (nm.size : Int) 70).toNat).size ≤ 70 := by rw [ByteArray.size_extract]; omega
  obtain ⟨i0, hi, hz0, hz1, hz2⟩ := info_parts infoRecF
  generalize (l.take m).map rOf = XS at *
  have HML := Lib.hid hml; clear hml
  have HA := Lib.hid hA; clear hA
  have hnn' := Lib.hid hnn; clear hnn
  have HB9 : w.heap.size < w.heap.size + 1 := by omega
  go_enter Try.func11, Try.ntmps11
  go_upto_region 1 with fail
  go_upto_region 2 with fail
  generalize nm.extract 0 (min (nm.size : Int) 70).toNat = nn at *
  have HX := Lib.hid (block_alloc (alloc_new w (.cells #[.int .i64 id, .bool ans, .int .i64 code, .string nn, .int .i64 kd, .slice A n c] 27)) (.cells #[.int .i64 0, .bool false, .int .i64 0, .string ⟨#[]⟩, .int .i64 0, .slice none 0 0] 27))
  have HZ1 := Lib.hid (alloc_new' (w.alloc (.cells #[.int .i64 id, .bool ans, .int .i64 code, .string nn, .int .i64 kd, .slice A n c] 27)) (.cells #[.int .i64 0, .bool false, .int .i64 0, .string ⟨#[]⟩, .int .i64 0, .slice none 0 0] 27) (w.heap.size + 1) (by simp))
  have HB1 := Lib.hid (below_alloc (o := .cells #[.int .i64 0, .bool false, .int .i64 0, .string ⟨#[]⟩, .int .i64 0, .slice none 0 0] 27) (below_alloc (o := .cells #[.int .i64 id, .bool ans, .int .i64 code, .string nn, .int .i64 kd, .slice A n c] 27) (Below.refl w.heap.size w)))
  have HL1 : Hid (0 < m → ∃ ad : Addr, A = some ad ∧ ∀ j u, (XS.flatMap rcells)[j]? = some u → ((w.alloc (.cells #[.int .i64 id, .bool ans, .int .i64 code, .string nn, .int .i64 kd, .slice A n c] 27)).alloc (.cells #[.int .i64 0, .bool false, .int .i64 0, .string ⟨#[]⟩, .int .i64 0, .slice none 0 0] 27)).cell? (ad.add j) = some u) := Lib.hid fun h0 => by
    obtain ⟨b, o, h1, hb, h2⟩ := HXL.out h0
    exact ⟨⟨b, o, none⟩, h1, fun j u hj => by
      have h3 := cell_alloc' (.cells #[.int .i64 0, .bool false, .int .i64 0, .string ⟨#[]⟩, .int .i64 0, .slice none 0 0] 27) (cell_alloc' (.cells #[.int .i64 id, .bool ans, .int .i64 code, .string nn, .int .i64 kd, .slice A n c] 27) (h2 j u hj))
      unfold Addr.add
      split
      · rename_i q; rw [q, Nat.add_zero] at h3; exact h3
      · exact h3⟩
  generalize (w.alloc (.cells #[.int .i64 id, .bool ans, .int .i64 code, .string nn, .int .i64 kd, .slice A n c] 27)).alloc (.cells #[.int .i64 0, .bool false, .int .i64 0, .string ⟨#[]⟩, .int .i64 0, .slice none 0 0] 27) = W1 at *
  clear HXL hk0 hk1
  have qX0 := (cell_of_block (k := 0) HX.out rfl).1; have zX0 := (cell_of_block (k := 0) HX.out rfl).2; have qX1 := (cell_of_block (k := 1) HX.out rfl).1; have zX1 := (cell_of_block (k := 1) HX.out rfl).2; have qX2 := (cell_of_block (k := 2) HX.out rfl).1; have zX2 := (cell_of_block (k := 2) HX.out rfl).2; have qX3 := (cell_of_block (k := 3) HX.out rfl).1; have zX3 := (cell_of_block (k := 3) HX.out rfl).2; have qX4 := (cell_of_block (k := 4) HX.out rfl).1; have zX4 := (cell_of_block (k := 4) HX.out rfl).2; have qX5 := (cell_of_block (k := 5) HX.out rfl).1; have zX5 := (cell_of_block (k := 5) HX.out rfl).2; have lt_X := blk_lt HX.out
  have hz1' := HB1.out.size
  have lz := blk_lt HZ1.out
  have hmn9 : (m : Int) ≤ (n : Int) := by omega
  go_cut [] from 4 (fun wx => ∃ (A2 : Option Addr) (c2 : Nat), CI w id ans code nn kd m A2 c2 0 XS wx)
  case first =>
   rcases A with _ | ad
   all_goals
    go_wp2_with (at_builtin; refine list_app rfl (.const (.slice none 0 0)) (.tmp 18) 25 rfl (SRow.nil 50 5 rcells W1 (w.heap.size + 2)) rcells_len i0 _ 56 Try.underlying25 hi hz0 hz1 hz2 rfl (by decide) 0 rfl _ _ _ XS rfl rfl HML.out HL1.out (rc_one XS) (by unfold maxLen; omega) (by omega) (by omega) ?_; intro A2 c2 w9 ho hg ha; have X9 := Lib.hid ((hg.block _ (blk_lt HX.out) (fun e => by cases e)).trans HX.out); have x9 := (cell_of_block (k := 5) X9.out rfl).1; have y9 := (cell_of_block (k := 5) X9.out rfl).2)
    have HXl := Lib.hid (cells_eq (b := #[.int .i64 id, .bool ans, .int .i64 code, .string nn, .int .i64 kd, .slice A2 m c2]) (block_setCell (k := 5) (v := .slice A2 m c2) X9.out) rfl)
    have HZl := Lib.hid (block_set_other (a := ⟨w.heap.size, 5, none⟩) (u := .slice A2 m c2) ((hg.block _ (blk_lt HZ1.out) (fun e => by cases e)).trans HZ1.out) (by simp))
    have HBl := Lib.hid (Below.setCell (HB1.out.grown hg (by omega) (fun q e => by cases e)) (p := ⟨w.heap.size, 5, none⟩) (by simp) (.slice A2 m c2))
    have HRl : Hid (RRow (World.setCell w9 ⟨w.heap.size, 5, none⟩ (.slice A2 m c2)) (w.heap.size + 2) A2 c2 XS) := Lib.hid (SRow.kept (by simpa using ho) (fun x hx => Below.heap_setCell _ _ _ _ (fun e => by have := (ho.bk hx).1; simp at e; omega)))
    have hCI : Hid (CI w id ans code nn kd m A2 c2 0 XS (World.setCell w9 ⟨w.heap.size, 5, none⟩ (.slice A2 m c2))) := Lib.hid ⟨HXl.out, HZl.out, HRl.out, HML.out, fun i h q => by omega, HBl.out⟩
    go_wp2_with fail
    go_meet
    exact ⟨A2, c2, hCI.out⟩
  case rest =>
    obtain ⟨A2, c2, hCI⟩ := hcut
    have hCI := Lib.hid hCI
    clear qX0 zX0 qX1 zX1 qX2 zX2 qX3 zX3 qX4 zX4 qX5 zX5 lt_X HX HZ1 HB1 hz1' lz HL1 HA HML
    go_wp2_with fail
    go_loopw [3] (fun u wr => ∃ (k : Nat) (L : List Rec), k ≤ m ∧ u = .int .i64 (k : Int) ∧ CI w id ans code nn kd m A2 c2 k L wr) (fun u _ => m - (Go.RowKit.intOf u).toNat)
    case atStart => exact ⟨0, XS, by omega, rfl, hCI.out⟩
    case round =>
      clear hCI
      obtain ⟨k, L, hk, rfl, hI⟩ := hrel
      have HI := Lib.hid hI; clear hI
      have hz0' := HI.out.gr.size
      have lX := blk_lt HI.out.z
      obtain ⟨⟨p0, p1, p2, p3, p4, p5⟩, -⟩ := cells6 HI.out.x
      have hk0 : (0 : Int) ≤ (k : Int) := by omega
      by_cases hlt : k < m
      · have hkl : decide ((k : Int) < (m : Int)) = true := by simp; omega
        have hkm : (k : Int) < (m : Int) := by omega
        have hLk : k < L.length := by rw [HI.out.len]; exact hlt
        obtain ⟨g, rfl, hlo, d0, d1, d2, d3, d4⟩ := RRow.at HI.out.row hLk
        have fz0 := HI.out.row.frozen (k * 5)
        have hn0 : (0 : Int) ≤ min ((L[k].nm.length : Nat) : Int) 70 := by omega
        have hn1 : min ((L[k].nm.length : Nat) : Int) 70 ≤ ((L[k].nm.length : Nat) : Int) := by omega
        have he1 := ext_len L[k].nm
        have he2 := ext_len L[k].dst
        have hm0 : (0 : Int) ≤ min ((L[k].dst.length : Nat) : Int) 70 := by omega
        have hm1 : min ((L[k].dst.length : Nat) : Int) 70 ≤ ((L[k].dst.length : Nat) : Int) := by omega
        have HC1 := Lib.hid ((HI.out.set hLk 0 (by omega) ⟨((⟨L[k].nm.toArray⟩ : ByteArray).extract 0 (min ((L[k].nm.length : Nat) : Int) 70).toNat).data.toList, L[k].kd, L[k].ttl, L[k].addr, L[k].dst⟩ (.string ((⟨L[k].nm.toArray⟩ : ByteArray).extract 0 (min ((L[k].nm.length : Nat) : Int) 70).toNat)) rfl).drew)
        rw [Nat.add_zero] at HC1
        go_upto_region 6 with fail
        go_region
        go_upto_region 7 with fail
        clear HI d0 d1 d2 d3 d4 fz0 p0 p1 p2 p3 p4 p5 hn0 hn1
        generalize (⟨L[k].nm.toArray⟩ : ByteArray).extract 0 (min ((L[k].nm.length : Nat) : Int) 70).toNat = E1 at *
        generalize (World.setCell wr ⟨g, k * 5, none⟩ (.string E1)).drew = V1 at *
        have hk1 : k < (L.set k ⟨E1.data.toList, L[k].kd, L[k].ttl, L[k].addr, L[k].dst⟩).length := by rw [List.length_set]; exact hLk
        have ek1 : (L.set k ⟨E1.data.toList, L[k].kd, L[k].ttl, L[k].addr, L[k].dst⟩)[k]'hk1 = ⟨E1.data.toList, L[k].kd, L[k].ttl, L[k].addr, L[k].dst⟩ := by rw [List.getElem_set_self]
        generalize L[k] = r0 at *
        generalize L.set k ⟨E1.data.toList, r0.kd, r0.ttl, r0.addr, r0.dst⟩ = L1 at *
        have HEk := Lib.hid ek1; clear ek1
        have HE1 := Lib.hid he1; have HE2 := Lib.hid he2; clear he1 he2
        obtain ⟨g', hg', -, -, -, -, -, d4⟩ := RRow.at HC1.out.row hk1
        cases hg'
        have fz4 := HC1.out.row.frozen (k * 5 + 4)
        rw [HEk.out] at d4
        dsimp only at d4
        obtain ⟨⟨p0, p1, p2, p3, p4, p5⟩, -⟩ := cells6 HC1.out.x
        have lX2 := blk_lt HC1.out.z
        have HC2 := Lib.hid ((HC1.out.set hk1 4 (by omega) ⟨E1.data.toList, r0.kd, r0.ttl, r0.addr, ((⟨r0.dst.toArray⟩ : ByteArray).extract 0 (min ((r0.dst.length : Nat) : Int) 70).toNat).data.toList⟩ (.string ((⟨r0.dst.toArray⟩ : ByteArray).extract 0 (min ((r0.dst.length : Nat) : Int) 70).toNat)) (by rw [HEk.out]; rfl)).drew)
        have HC3 := Lib.hid (HC2.out.next (fun hk2 => by
          rw [List.getElem_set_self]
          exact ⟨Nat.le_trans HE1.out (by omega), Nat.le_trans HE2.out (by omega)⟩))
        go_region
        go_wp2_with fail
        clear HC1 HC2 p0 p1 p2 p3 p4 p5 d4 fz4
        exact ⟨⟨k + 1, _, by omega, by go_num, HC3.out⟩, by simp [Go.RowKit.intOf]; omega⟩
      · have hkl : decide ((k : Int) < (m : Int)) = false := by simp; omega
        obtain rfl : k = m := by omega
        obtain ⟨⟨z0, z1, z2, z3, z4, z5⟩, f0, f1, f2, f3, f4, f5⟩ := cells6 HI.out.z
        have hln := HI.out.len
        go_wp2_with fail
        have HZf := cells_eq (b := #[.int .i64 id, .bool ans, .int .i64 code, .string nn, .int .i64 kd, .slice A2 k c2]) (block_setCell (k := 5) (v := .slice A2 k c2) (block_setCell (k := 4) (v := .int .i64 kd) (block_setCell (k := 3) (v := .string nn) (block_setCell (k := 2) (v := .int .i64 code) (block_setCell (k := 1) (v := .bool ans) (block_setCell (k := 0) (v := .int .i64 id) HI.out.z)))))) rfl
        refine bodyPost_ret (v := .agg #[.int .i64 id, .bool ans, .int .i64 code, .string nn, .int .i64 kd, .slice A2 k c2]) (res_cell1 Try.results11 HZf rfl Try.underlying27 rfl infoMsg) rfl ⟨⟨id, ans, code, nn.data.toList, kd, L⟩, A2, c2, ?_, ?_, ?_, ?_⟩
        · dsimp only; rw [hln]
        · refine SRow.mono (SRow.kept HI.out.row (fun x hx => ?_)) (by omega)
          have h9 := (HI.out.row.bk hx).1
          repeat rw [Below.heap_setCell _ _ _ _ (fun e => by simp at e; omega)]
        · refine ⟨⟨by show nn.data.toList.length ≤ _; show nn.size ≤ _; omega, by show L.length ≤ _; omega, fun r hr => ?_⟩, by show L.length ≤ _; omega⟩
          obtain ⟨j, hj, rfl⟩ := List.getElem_of_mem hr
          exact HI.out.fits j hj (by have h9 : j < L.length := hj; omega)
        · exact Below.setCell (Below.setCell (Below.setCell (Below.setCell (Below.setCell (Below.setCell HI.out.gr (by simp) _) (by simp) _) (by simp) _) (by simp) _) (by simp) _) (by simp) _
end Go.Proofs.Ythdggmigjddneaa.Dn
