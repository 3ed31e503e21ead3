/-
  The contract of the reference's Labels.
-/
import Derived.Test.YthdggmigjddneaaDnRl
import Derived.Test.YthdggmigjddneaaSRows
import Derived.Deep.AppendLies
import Derived.Test.YthdggmigjddneaaHeld
import Derived.Deep.RegionHeld3
namespace Go.Proofs.Ythdggmigjddneaa.Dn
set_option maxRecDepth 100000
open Go.RowKit Go.Proofs.Ythdggmigjddneaa.Wire Go.Proofs.Ythdggmigjddneaa.Rw

theorem snoc_dot (l : List UInt8) : labelsOf (l ++ [46]) = labelsOf l ++ [[]] := labelsOf_append l []
theorem snoc_plain (c : UInt8) (hc : c ≠ 46) : ∀ (l : List UInt8) (pre : List (List UInt8)) (last : List UInt8), labelsOf l = pre ++ [last] → labelsOf (l ++ [c]) = pre ++ [last ++ [c]]
  | [], pre, last, h => by
    have h2 : pre = [] ∧ last = [] := by
      cases pre with
      | nil => exact ⟨rfl, by simpa [labelsOf] using h.symm⟩
      | cons a t => have := congrArg List.length h; simp [labelsOf] at this
    obtain ⟨rfl, rfl⟩ := h2
    exact labelsOf_cons c [] [] [] hc rfl
  | d :: l, pre, last, h => by
    obtain ⟨p, t, e⟩ := List.exists_cons_of_ne_nil (labelsOf_ne l)
    obtain ⟨p2, t2, e2⟩ : ∃ p2 t2, labelsOf l = p2 ++ [t2] := ⟨_, _, (List.dropLast_concat_getLast (labelsOf_ne l)).symm⟩
    have ih := snoc_plain c hc l p2 t2 e2
    by_cases hd : d = 46
    · subst hd
      rw [labelsOf_dot, e2] at h
      have h3 : pre = [] :: p2 ∧ last = t2 := by
        have := List.append_inj' (s₁ := [] :: p2) (t₁ := [t2]) h rfl
        exact ⟨this.1.symm, by have h4 := this.2; simp at h4; exact h4.symm⟩
      obtain ⟨rfl, rfl⟩ := h3
      rw [List.cons_append, labelsOf_dot, ih]; rfl
    · cases p2 with
      | nil =>
        rw [List.nil_append] at e2 ih
        rw [labelsOf_cons d l t2 [] hd e2] at h
        have h3 : pre = [] ∧ last = d :: t2 := by
          have := List.append_inj' (s₁ := []) (t₁ := [d :: t2]) h rfl
          exact ⟨this.1.symm, by have h4 := this.2; simp at h4; exact h4.symm⟩
        obtain ⟨rfl, rfl⟩ := h3
        rw [List.cons_append, labelsOf_cons d _ (t2 ++ [c]) [] hd ih]; rfl
      | cons q p2 =>
        rw [List.cons_append] at e2 ih
        rw [labelsOf_cons d l q _ hd e2] at h
        have h3 : pre = (d :: q) :: p2 ∧ last = t2 := by
          have := List.append_inj' (s₁ := (d :: q) :: p2) (t₁ := [t2]) h rfl
          exact ⟨this.1.symm, by have h4 := this.2; simp at h4; exact h4.symm⟩
        obtain ⟨rfl, rfl⟩ := h3
        rw [List.cons_append, labelsOf_cons d _ q _ hd ih]; rfl
def sc (a : List UInt8) : List Value := [.string ⟨a.toArray⟩]
theorem sc_len (a : List UInt8) : (sc a).length = 1 := rfl
theorem sc_flat (L : List (List UInt8)) : L.flatMap sc = L.map fun a => Value.string ⟨a.toArray⟩ := by
  induction L with
  | nil => rfl
  | cons a L ih => rw [List.flatMap_cons, ih]; rfl
/-- a row of strings -/
def LRow (W : World) (lo : Nat) (A : Option Addr) (c : Nat) (l : List (List UInt8)) : Prop := SRow 9 1 sc W lo A c l
theorem LRow.set {W : World} {lo g c : Nat} {pre : List (List UInt8)} {a b : List UInt8} (h : LRow W lo (some ⟨g, 0, none⟩) c (pre ++ [a])) : LRow (W.setCell ⟨g, pre.length, none⟩ (.string ⟨b.toArray⟩)) lo (some ⟨g, 0, none⟩) c (pre ++ [b]) := by
  have := (World.ownsRow.stored h pre.length (.string ⟨b.toArray⟩)).1
  unfold LRow SRow
  have e : (pre ++ [a]).length = (pre ++ [b]).length := by simp
  have e2 : ((pre ++ [a]).flatMap sc).set pre.length (.string ⟨b.toArray⟩) = (pre ++ [b]).flatMap sc := by
    rw [sc_flat, sc_flat, List.map_append, List.map_append, List.set_append_right _ _ (by simp)]; simp
  rw [e, e2] at this
  exact this
theorem LRow.last {W : World} {lo g c : Nat} {pre : List (List UInt8)} {a : List UInt8} (h : LRow W lo (some ⟨g, 0, none⟩) c (pre ++ [a])) : W.cell? ⟨g, pre.length, none⟩ = some (.string ⟨a.toArray⟩) ∧ W.frozen? ⟨g, pre.length, none⟩ = false := by
  rcases h.2 with ⟨e, -⟩ | ⟨g2, cap, cur, e, -, hg, -, -, -, ht⟩
  · cases e
  · injection e with e1 e2 e3
    cases e1
    refine cell_of_block (k := pre.length) hg ?_
    rw [sc_flat] at ht
    have h2 := congrArg (fun l => l[pre.length]?) ht
    simp at h2
    simpa using h2
theorem infoStr : (Try.prog.info? 9).map (fun i => (i.zero, i.size, i.bytes)) = some (some (.string ⟨#[]⟩), 1, 16) := by kernel_rfl
set_option maxHeartbeats 8000000 in
theorem rlabels_any (s : ByteArray) (w : World) (hs : s.size ≤ 1000000) :
    Calls Try.prog 26 #[.string s] w fun e w' => (∃ A c, e = .returned (.slice A (labelsOf s.data.toList).length c) ∧ LRow w' w.heap.size A c (labelsOf s.data.toList)) ∧ Below w.heap.size w w' := by
  have HL0 : Hid (labelsOf (s.data.toList.take s.size) = labelsOf s.data.toList) := Lib.hid (by rw [List.take_of_length_le (by show s.size ≤ s.size; omega)])
  generalize hR : labelsOf s.data.toList = LL at *
  have HB0 := Lib.hid ((Below.refl w.heap.size w).alloc (Nat.le_refl _) (.cells #[.string ⟨#[]⟩] 9))
  have HN0 : Hid (LRow (w.alloc (.cells #[.string ⟨#[]⟩] 9)) w.heap.size (some ⟨w.heap.size, 0, none⟩) 1 ([] ++ [[]])) := Lib.hid (SRow.new (l := [[]]) (Nat.le_refl _) sc_len (alloc_new w _) rfl (by unfold maxLen; simp))
  go_enter Try.func26, Try.ntmps26
  go_wp2_with fail
  generalize w.alloc (.cells #[.string ⟨#[]⟩] 9) = w0 at *
  go_loopw [3, 4] (fun v u wr => ∃ (k : Nat) (pre : List (List UInt8)) (last : List UInt8) (g c : Nat), k ≤ s.size ∧ u = .int .i64 (k : Int) ∧ v = .slice (some ⟨g, 0, none⟩) (pre.length + 1) c ∧ labelsOf (s.data.toList.take k) = pre ++ [last] ∧ LRow wr w.heap.size (some ⟨g, 0, none⟩) c (pre ++ [last]) ∧ Below w.heap.size w wr ∧ pre.length ≤ k ∧ last.length ≤ k) (fun v u wr => s.size - (intOf u).toNat)
  case atStart => exact ⟨0, [], [], _, 1, by omega, rfl, rfl, rfl, HN0.out, HB0.out, by simp, by simp⟩
  case round =>
    clear HN0 HB0
    obtain ⟨k, pre, last, g, c, hk, rfl, rfl, hlab, hrow, hb, hpl, hll⟩ := hrel
    have HRow := Lib.hid hrow; have HLab := Lib.hid hlab; clear hrow hlab
    by_cases hlt : k < s.size
    · have hkl : decide ((k : Int) < (s.size : Int)) = true := by simp; omega
      have hk1 : (k : Int) < (s.size : Int) := by omega
      have hk0 : (0 : Int) ≤ (k : Int) := by omega
      have HT : Hid (s.data.toList.take (k + 1) = s.data.toList.take k ++ [s[k]]) := Lib.hid (by
        rw [List.take_add_one, List.getElem?_eq_getElem (by exact hlt)]; rfl)
      obtain ⟨i0, hi, hz0, hz1, hz2⟩ := info_parts infoStr
      by_cases hd : s[k].toNat = 46
      · have hdb : ((s[k].toNat : Int) == 46) = true := by simp; omega
        have HE : Hid (labelsOf (s.data.toList.take (k + 1)) = (pre ++ [last]) ++ [[]]) := Lib.hid (by
          rw [HT.out, show s[k] = 46 from UInt8.toNat_inj.1 hd, snoc_dot, HLab.out])
        clear HLab hd
        have HR2 := Lib.hid (SRow.below HRow.out ((Below.refl wr.heap.size wr).alloc (Nat.le_refl _) (.cells #[.string ⟨#[]⟩] 9)))
        have HB2 := Lib.hid (below_alloc (o := .cells #[.string ⟨#[]⟩] 9) hb)
        have HNW := Lib.hid (alloc_new wr (.cells #[.string ⟨#[]⟩] 9))
        have hsz := hb.size
        clear hb HRow
        go_wp2_with (at_builtin; refine list_app rfl (.tmp 16) (.tmp 17) 33 rfl HR2.out sc_len i0 _ 16 Try.underlying33 hi hz0 hz1 hz2 rfl (by decide) (pre.length + 1) (by simp) _ _ _ [[]] rfl rfl rfl (fun _ => ⟨_, rfl, World.news_of_block HNW.out⟩) (by intro u hu; simp [sc] at hu; subst hu; rfl) (by unfold maxLen; omega) (by omega) (by simp; omega) ?_; intro A2 c2 w9 ho hg ha)
        obtain ⟨g2, rfl, -⟩ := SRow.addr ho (by simp)
        refine ⟨⟨k + 1, pre ++ [last], [], g2, c2, by omega, by go_num, by simp, HE.out, ho, ⟨hg.os.trans HB2.out.os, hg.tape.trans HB2.out.tape, hg.output.trans HB2.out.output, Nat.le_trans HB2.out.size hg.size, fun i hi2 => (hg.block i (by have := HB2.out.size; omega) (fun e => by have := (SRow.bk' HR2.out (ob_bk e.symm)).1; omega)).trans (HB2.out.block i hi2)⟩, by simp; omega, by simp⟩, by simp [Go.RowKit.intOf]; omega⟩
      · have hdb : ((s[k].toNat : Int) == 46) = false := by simp; omega
        have HE : Hid (labelsOf (s.data.toList.take (k + 1)) = pre ++ [last ++ [s[k]]]) := Lib.hid (by
          rw [HT.out]; exact snoc_plain _ (fun e => hd (by rw [e]; rfl)) _ _ _ HLab.out)
        clear HLab
        have HXs : Hid ((⟨last.toArray⟩ : ByteArray) ++ s.extract k (k + 1) = ⟨(last ++ [s[k]]).toArray⟩) := Lib.hid (by
          apply ByteArray.ext
          apply Array.ext'
          have e : (s.extract k (k + 1)).data.toList = [s[k]] := by
            rw [ByteArray.data_extract, Array.toList_extract, List.extract_eq_take_drop, Nat.add_sub_cancel_left, List.drop_eq_getElem_cons (by exact hlt)]
            rfl
          rw [ByteArray.data_append, Array.toList_append, e])
        obtain ⟨c0, f0⟩ := HRow.out.last
        have b6 : IntKind.i64.wrap ((k : Int) + 1) = (k : Int) + 1 := IntWalk.i64_in _ (by omega)
        have b7 : ((k : Int) + 1).toNat = k + 1 := by omega
        have b4 : (k : Int) + 1 ≤ (s.size : Int) := by omega
        have b5 : (0 : Int) ≤ (k : Int) + 1 := by omega
        have b8 : (k : Int) ≤ (k : Int) + 1 := by omega
        have b9 : (s.extract k (k + 1)).size = 1 := by rw [ByteArray.size_extract]; omega
        have b10 : ¬ 9223372036854775807 < last.length + 1 := by omega
        have bw : IntKind.i64.wrap (pre.length : Int) = (pre.length : Int) := IntWalk.i64_in _ (by omega)
        have p1 : (pre.length : Int) < (pre.length : Int) + 1 := by omega
        have p0 : (0 : Int) ≤ (pre.length : Int) := by omega
        -- region7
        go_upto_region 7 with fail
        refine wp_region_held_drew (S := fun _ => True) (by kernel_rfl) (trivial) ?_
        intro hS
        have c1 : wr.drew.cell? ⟨g, pre.length, none⟩ = _ := c0; have f1 : wr.drew.frozen? ⟨g, pre.length, none⟩ = _ := f0; have HRd : Hid (LRow wr.drew w.heap.size (some ⟨g, 0, none⟩) c (pre ++ [last])) := Lib.hid HRow.out; have hbd := hb.drew
        clear c0 f0 HRow hb
        generalize wr.drew = wd at *
        refine wpAnyH_take (i := 0) (oi := ⟨some 19, _, _, _, _, _⟩) (v := ?vt1x0) rfl (by kernel_rfl) (by kernel_rfl) (by kernel_rfl) (fun _ _ _ h => h) (Or.inl ⟨by rfl, ?hyt1x0⟩) (by exact trivial) ?ret1x0
        case hyt1x0 => (intro ww hSw; (try dsimp only at hSw); go_simp; first | done | with_reducible rfl)
        try simp only [Act.put, List.setIfInBounds_toArray, List.set_cons_zero, List.set_cons_succ]
        refine wpAnyH_take (i := 1) (oi := ⟨some 20, _, _, _, _, _⟩) (v := ?vt1x1) rfl (by kernel_rfl) (by kernel_rfl) (by kernel_rfl) (fun _ _ _ h => h) (Or.inl ⟨by rfl, ?hyt1x1⟩) (by exact trivial) ?ret1x1
        case hyt1x1 => (intro ww hSw; (try dsimp only at hSw); go_simp; first | done | with_reducible rfl)
        try simp only [Act.put, List.setIfInBounds_toArray, List.set_cons_zero, List.set_cons_succ]
        refine wpAnyH_take (i := 2) (oi := ⟨some 21, _, _, _, _, _⟩) (v := ?vt1x2) rfl (by kernel_rfl) (by kernel_rfl) (by kernel_rfl) (fun _ _ _ h => h) (Or.inl ⟨by rfl, ?hyt1x2⟩) (by exact trivial) ?ret1x2
        case hyt1x2 => (intro ww hSw; (try dsimp only at hSw); go_simp; first | done | with_reducible rfl)
        try simp only [Act.put, List.setIfInBounds_toArray, List.set_cons_zero, List.set_cons_succ]
        refine wpAnyH_take (i := 3) (oi := ⟨some 22, _, _, _, _, _⟩) (v := ?vt1x3) rfl (by kernel_rfl) (by kernel_rfl) (by kernel_rfl) (fun _ _ _ h => h) (Or.inl ⟨by rfl, ?hyt1x3⟩) (by exact trivial) ?ret1x3
        case hyt1x3 => (intro ww hSw; (try dsimp only at hSw); go_simp; first | done | with_reducible rfl)
        try simp only [Act.put, List.setIfInBounds_toArray, List.set_cons_zero, List.set_cons_succ]
        refine wpAnyH_take (i := 4) (oi := ⟨some 23, _, _, _, _, _⟩) (v := ?vt1x4) rfl (by kernel_rfl) (by kernel_rfl) (by kernel_rfl) (fun _ _ _ h => h) (Or.inl ⟨by rfl, ?hyt1x4⟩) (by exact trivial) ?ret1x4
        case hyt1x4 => (intro ww hSw; (try dsimp only at hSw); go_simp; first | done | with_reducible rfl)
        try simp only [Act.put, List.setIfInBounds_toArray, List.set_cons_zero, List.set_cons_succ]
        refine wpAnyH_take (i := 5) (oi := ⟨some 24, _, _, _, _, _⟩) (v := ?vt1x5) rfl (by kernel_rfl) (by kernel_rfl) (by kernel_rfl) (fun _ _ _ h => h) (Or.inl ⟨by rfl, ?hyt1x5⟩) (by exact trivial) ?ret1x5
        case hyt1x5 => (intro ww hSw; (try dsimp only at hSw); go_simp; first | done | with_reducible rfl)
        try simp only [Act.put, List.setIfInBounds_toArray, List.set_cons_zero, List.set_cons_succ]
        refine wpAnyH_take (i := 6) (oi := ⟨some 25, _, _, _, _, _⟩) (v := ?vt1x6) rfl (by kernel_rfl) (by kernel_rfl) (by kernel_rfl) (fun _ _ _ h => h) (Or.inl ⟨by rfl, ?hyt1x6⟩) (by exact trivial) ?ret1x6
        case hyt1x6 => (intro ww hSw; (try dsimp only at hSw); go_simp; first | done | with_reducible rfl)
        try simp only [Act.put, List.setIfInBounds_toArray, List.set_cons_zero, List.set_cons_succ]
        refine wpAnyH_take (i := 7) (oi := ⟨some 26, _, _, _, _, _⟩) (v := ?vt1x7) rfl (by kernel_rfl) (by kernel_rfl) (by kernel_rfl) (fun _ _ _ h => h) (Or.inl ⟨by rfl, ?hyt1x7⟩) (by exact trivial) ?ret1x7
        case hyt1x7 => (intro ww hSw; (try dsimp only at hSw); go_simp; first | done | with_reducible rfl)
        try simp only [Act.put, List.setIfInBounds_toArray, List.set_cons_zero, List.set_cons_succ]
        refine wpAnyH_take (i := 8) (oi := ⟨some 27, _, _, _, _, _⟩) (v := ?vt1x8) rfl (by kernel_rfl) (by kernel_rfl) (by kernel_rfl) (fun _ _ _ h => h) (Or.inl ⟨by rfl, ?hyt1x8⟩) (by exact trivial) ?ret1x8
        case hyt1x8 => (intro ww hSw; (try dsimp only at hSw); go_simp; first | done | with_reducible rfl)
        try simp only [Act.put, List.setIfInBounds_toArray, List.set_cons_zero, List.set_cons_succ]
        refine wpAnyH_take (i := 10) (oi := ⟨some 29, _, _, _, _, _⟩) (v := ?vt1x10) rfl (by kernel_rfl) (by kernel_rfl) (by kernel_rfl) (fun _ _ _ h => h) (Or.inl ⟨by rfl, ?hyt1x10⟩) (by exact trivial) ?ret1x10
        case hyt1x10 => (intro ww hSw; (try dsimp only at hSw); go_simp; first | done | with_reducible rfl)
        try simp only [Act.put, List.setIfInBounds_toArray, List.set_cons_zero, List.set_cons_succ]
        refine wpAnyH_take (i := 11) (oi := ⟨some 30, _, _, _, _, _⟩) (v := ?vt1x11) rfl (by kernel_rfl) (by kernel_rfl) (by kernel_rfl) (fun _ _ _ h => h) (Or.inl ⟨by rfl, ?hyt1x11⟩) (by exact trivial) ?ret1x11
        case hyt1x11 => (intro ww hSw; (try dsimp only at hSw); go_simp; first | done | with_reducible rfl)
        try simp only [Act.put, List.setIfInBounds_toArray, List.set_cons_zero, List.set_cons_succ]
        refine wpAnyH_take (i := 12) (oi := ⟨some 31, _, _, _, _, _⟩) (v := ?vt1x12) rfl (by kernel_rfl) (by kernel_rfl) (by kernel_rfl) (fun _ _ _ h => h) (Or.inl ⟨by rfl, ?hyt1x12⟩) (by exact trivial) ?ret1x12
        case hyt1x12 => (intro ww hSw; (try dsimp only at hSw); go_simp; first | done | with_reducible rfl)
        try simp only [Act.put, List.setIfInBounds_toArray, List.set_cons_zero, List.set_cons_succ]
        refine wpAnyH_take (i := 13) (oi := ⟨some 32, _, _, _, _, _⟩) (v := ?vt1x13) rfl (by kernel_rfl) (by kernel_rfl) (by kernel_rfl) (fun _ _ _ h => h) (Or.inl ⟨by rfl, ?hyt1x13⟩) (by exact trivial) ?ret1x13
        case hyt1x13 => (intro ww hSw; (try dsimp only at hSw); go_simp; first | done | with_reducible rfl)
        try simp only [Act.put, List.setIfInBounds_toArray, List.set_cons_zero, List.set_cons_succ]
        refine wpAnyH_take (i := 14) (oi := ⟨some 33, _, _, _, _, _⟩) (v := ?vt1x14) rfl (by kernel_rfl) (by kernel_rfl) (by kernel_rfl) (fun _ _ _ h => h) (Or.inl ⟨by rfl, ?hyt1x14⟩) (by exact trivial) ?ret1x14
        case hyt1x14 => (intro ww hSw; (try dsimp only at hSw); go_simp; first | done | with_reducible rfl)
        try simp only [Act.put, List.setIfInBounds_toArray, List.set_cons_zero, List.set_cons_succ]
        refine wpAnyH_ready (rs := [9]) (by kernel_rfl) (by simp) ?_
        refine AllReadyH.cons (o := ⟨some 28, _, _, _, _, _⟩) rfl (fun K2 hK2 => ?_) AllReadyH.nil
        go_simp
        refine hK2.out _ _ (trivial) (fun h2 => ?_)
        try simp only [Act.put, List.setIfInBounds_toArray, List.set_cons_zero, List.set_cons_succ]
        refine wpAnyH_take (i := 15) (oi := ⟨some 34, _, _, _, _, _⟩) (v := ?vt3x15) rfl (by kernel_rfl) (by kernel_rfl) (by kernel_rfl) (fun _ _ _ h => h) (Or.inl ⟨by rfl, ?hyt3x15⟩) (by exact trivial) ?ret3x15
        case hyt3x15 => (intro ww hSw; (try dsimp only at hSw); go_simp; first | done | with_reducible rfl)
        try simp only [Act.put, List.setIfInBounds_toArray, List.set_cons_zero, List.set_cons_succ]
        refine wpAnyH_take (i := 16) (oi := ⟨some 35, _, _, _, _, _⟩) (v := ?vt3x16) rfl (by kernel_rfl) (by kernel_rfl) (by kernel_rfl) (fun _ _ _ h => h) (Or.inl ⟨by rfl, ?hyt3x16⟩) (by exact trivial) ?ret3x16
        case hyt3x16 => (intro ww hSw; (try dsimp only at hSw); go_simp; first | done | with_reducible rfl)
        try simp only [Act.put, List.setIfInBounds_toArray, List.set_cons_zero, List.set_cons_succ]
        refine wpAnyH_ready (rs := [17]) (by kernel_rfl) (by simp) ?_
        refine AllReadyH.cons (o := ⟨none, _, _, _, _, _⟩) rfl (fun K4 hK4 => ?_) AllReadyH.nil
        go_simp
        (try rw [HXs.out])
        refine hK4.out _ _ (trivial) (fun h4 => ?_)
        try simp only [Act.put, List.setIfInBounds_toArray, List.set_cons_zero, List.set_cons_succ]
        refine wpAnyH_done (by kernel_rfl) ?_ _
        clear c1 f1
        go_wp2_with fail
        -- end7
        obtain ⟨g2, e2, hg2⟩ := SRow.addr HRd.out (by simp)
        cases e2
        exact ⟨⟨k + 1, pre, last ++ [s[k]], g, c, by omega, by go_num, rfl, HE.out, HRd.out.set, Below.setCell hbd (p := ⟨g, pre.length, none⟩) hg2 _, by omega, by simp; omega⟩, by simp [Go.RowKit.intOf]; omega⟩
    · have hkl : decide ((k : Int) < (s.size : Int)) = false := by simp; omega
      obtain rfl : k = s.size := by omega
      rw [HL0.out] at HLab
      go_wp2_with fail
      go_ret
      have hLL := HLab.out
      subst hLL
      exact ⟨⟨some ⟨g, 0, none⟩, c, by simp, HRow.out⟩, hb⟩
end Go.Proofs.Ythdggmigjddneaa.Dn
