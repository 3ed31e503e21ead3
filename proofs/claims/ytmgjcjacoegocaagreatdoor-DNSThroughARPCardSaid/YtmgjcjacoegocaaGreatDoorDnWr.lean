/-
  The contracts of package dns's writer: number, name, record.
-/
import Derived.Test.YtmgjcjacoegocaaGreatDoorDnBld
import Derived.Test.YtmgjcjacoegocaaGreatDoorDnMsg
import Derived.Test.YtmgjcjacoegocaaGreatDoorRange3
import Derived.WalkMore
namespace Go.Proofs.YtmgjcjacoegocaaGreatDoor.Dn
set_option maxRecDepth 100000
open Go.RowKit Go.Proofs.YtmgjcjacoegocaaGreatDoor.Wire Go.Proofs.YtmgjcjacoegocaaGreatDoor.Rw Go.Shelf
attribute [local go_sem] Oper.semAt_some

set_option maxHeartbeats 2000000 in
theorem number_w (B b : Nat) (l : List UInt8) (f : Bool) (n k : Int) (w : World) (h : IsW B b l f w) (h1 : 1 ≤ k) (h4 : k ≤ 4) (h0 : 0 ≤ n) (hn : n < 256 ^ k.toNat) (hlen : l.length ≤ 100000) (hBw : B ≤ w.heap.size) :
    Calls Tryz.prog 36 #[.pointer (some ⟨b, 0, none⟩), .int .i64 n, .int .i64 k] w fun e w' => e = .returned (.tuple #[]) ∧ IsW B b (l ++ be k.toNat n) f w' ∧ Below B w w' ∧ KW b w w' := by
  have HP := Lib.hid fun W => put_okI n k W h1 h4 h0 hn
  have hbl := be_length k.toNat n
  have HI := Lib.hid h; clear h
  generalize be k.toNat n = t at *
  have ht : t.length ≤ 4 := by omega
  clear hn hbl
  go_enter Tryz.func36, Tryz.ntmps36
  go_wp2_with fail
  refine (HP.out _).mono ?_
  rintro e w1 ⟨rfl, hb⟩
  have HI1 := Lib.hid (HI.out.below hb)
  obtain ⟨cs, hcs⟩ := HI1.out.cells
  have HW := Lib.hid fun (W : World) (h : IsW B b l f W) (hB : B ≤ W.heap.size) => write_w B b l f ⟨t.toArray⟩ W h (by rw [sz]; omega) hB
  go_wp2_with fail
  refine (HW.out _ HI1.out (by have := hb.size; omega)).mono ?_
  rintro e w2 ⟨rfl, HJ, hb2, hk2⟩
  have HJ' : IsW B b (l ++ t) f w2 := HJ
  go_wp2_with fail
  go_end0
  exact ⟨rfl, HJ', (hb.mono hBw).trans hb2, (KW.of_below hb).trans hk2⟩
theorem encLabs_snoc (L : List (List UInt8)) (a : List UInt8) : encLabs (L ++ [a]) = encLabs L ++ (be 1 a.length ++ a) := by simp [encLabs]
theorem encLabs_take_le (L : List (List UInt8)) (i : Nat) : (encLabs (L.take i)).length ≤ (encLabs L).length := by
  have h : encLabs L = encLabs (L.take i) ++ encLabs (L.drop i) := by
    unfold encLabs
    rw [← List.flatMap_append, List.take_append_drop]
  rw [h, List.length_append]; omega
theorem IsW.put {B b l f W} (h : IsW B b l f W) {M : Nat} {o : Obj} (hM : W.heap[M]? = some o) (ho : o.isCells = false) (o' : Obj) : IsW B b l f (W.putObj M o') := by
  obtain ⟨p, v, hp, hk, hown, hne⟩ := h.ex
  have hbM : b ≠ M := by
    rintro rfl
    rw [hk] at hM
    injection hM with hM
    subst hM
    cases ho
  refine ⟨h.le, p, v, hp, (World.putObj_heap_other hbM).trans hk, ?_, hne⟩
  refine hown.kept (row := some M) ⟨rfl, rfl, rfl, by simp [World.putObj], fun k _ hk => World.putObj_heap_other (fun e => hk (by rw [e]))⟩ (Or.inr ?_)
  intro e
  rcases hown.2 with ⟨hv, -⟩ | ⟨g, cp, cur, hv, -, hg, -⟩
  · subst hv; simp [Value.ownBlock] at e
  · subst hv
    simp [Value.ownBlock] at e
    subst e
    rw [hg] at hM
    injection hM with hM
    subst hM
    cases ho
theorem KW.put {b : Nat} {w W : World} (h : KW b w W) {M : Nat} (hM : w.heap.size ≤ M) (o : Obj) : KW b w (W.putObj M o) := ⟨by simpa [World.putObj] using h.1, fun k x hk hb hx => by
  have : k < w.heap.size := (Array.getElem?_eq_some_iff.1 hk).1
  exact (World.putObj_heap_other (by omega)).trans (h.2 k x hk hb hx)⟩
structure XNm (w : World) (B b : Nat) (l : List UInt8) (f : Bool) (L : List (List UInt8)) (M : Nat) (i : Nat) (W : World) : Prop where
  wr : IsW B b (l ++ encLabs (L.take i)) f W
  bx : W.heap[w.heap.size]? = some (.cells #[.pointer (some ⟨b, 0, none⟩)] 198 (0, 0))
  below : Below B w W
  kw : KW b w W
  d : W.heap[M]? = some (.deferred (some []))
  lp : ∃ r, W.heap[M + 1]? = some (.loop r)
theorem XNm.down {w B b l f L M i W W'} (h : XNm w B b l f L M i W) (hb : Below W.heap.size W W') (hB : B ≤ w.heap.size) : XNm w B b l f L M i W' :=
  ⟨h.wr.below hb, bblock hb h.bx, h.below.trans (hb.mono (Nat.le_trans hB h.below.size)), h.kw.trans (KW.of_below hb), bblock hb h.d, by obtain ⟨r, hr⟩ := h.lp; exact ⟨r, bblock hb hr⟩⟩
theorem XNm.put {w B b l f L M i W} (h : XNm w B b l f L M i W) (hM : w.heap.size + 2 = M) (hbw : b < w.heap.size) (hB : B ≤ w.heap.size) (r : Loop) : XNm w B b l f L M i (W.putObj (M + 1) (.loop r)) := by
  obtain ⟨p, v, hp, hk, hown, hne⟩ := h.wr.ex
  obtain ⟨r0, hr0⟩ := h.lp
  refine ⟨⟨h.wr.le, p, v, hp, (World.putObj_heap_other (by omega)).trans hk, ?_, hne⟩, (World.putObj_heap_other (by omega)).trans h.bx, ⟨h.below.os, h.below.tape, h.below.output, by simpa [World.putObj] using h.below.size, fun k hk => (World.putObj_heap_other (by omega)).trans (h.below.block k hk)⟩, ⟨by simpa [World.putObj] using h.kw.1, fun k o hk hkb ho => ?_⟩, (World.putObj_heap_other (by omega)).trans h.d, ⟨r, World.putObj_heap_same (blk_lt hr0)⟩⟩
  · refine hown.kept (row := some (M + 1)) ⟨rfl, rfl, rfl, by simp [World.putObj], fun k _ hk => World.putObj_heap_other (fun e => hk (by rw [e]))⟩ (Or.inr ?_)
    intro e
    rcases hown.2 with ⟨hv, -⟩ | ⟨g, cp, cur, hv, -, hg, -⟩
    · subst hv; simp [Value.ownBlock] at e
    · subst hv
      simp [Value.ownBlock] at e
      subst e
      rw [hg] at hr0
      cases hr0
  · have : k < w.heap.size := (Array.getElem?_eq_some_iff.1 hk).1
    exact (World.putObj_heap_other (by omega)).trans (h.kw.2 k o hk hkb ho)
theorem box_ne (b : Nat) (c : Array Value) (f : Nat × Nat) : (Obj.cells #[.pointer (some ⟨b, 0, none⟩)] 198 (0, 0)) ≠ .cells c 5 f := by
  intro e
  injection e with _ e2
  exact absurd e2 (by decide)
theorem XNm.step {w B b l f L M i W W'} (h : XNm w B b l f L M i W) (hM : w.heap.size + 2 = M) (hbw : b < w.heap.size) (a : List UInt8) (ha : L[i]? = some a) (hI : IsW B b (l ++ encLabs (L.take i) ++ be 1 (a.length : Int) ++ a) f W') (hb : Below B W W') (hk : KW b W W') :
    (W'.heap[M]? = W.heap[M]? ∧ W'.heap[M + 1]? = W.heap[M + 1]?) ∧ XNm w B b l f L M (i + 1) W' := by
  obtain ⟨r, hr⟩ := h.lp
  have k1 := hk.2 _ _ h.d (by omega) (by intro c f e; cases e)
  have k2 := hk.2 _ _ hr (by omega) (by intro c f e; cases e)
  refine ⟨⟨k1.trans h.d.symm, k2.trans hr.symm⟩, ?_, hk.2 _ _ h.bx (by omega) (box_ne b), h.below.trans hb, h.kw.trans hk, k1, r, k2⟩
  have e : L.take (i + 1) = L.take i ++ [a] := by rw [List.take_add_one, ha]; rfl
  rw [e, encLabs_snoc, ← List.append_assoc, ← List.append_assoc]
  exact hI
set_option maxHeartbeats 4000000 in
theorem name_w (B b : Nat) (l : List UInt8) (f : Bool) (s : List UInt8) (w : World) (h : IsW B b l f w) (hv : nameB s = true) (hlen : l.length ≤ 50000) (hBw : B ≤ w.heap.size) :
    Calls Tryz.prog 37 #[.pointer (some ⟨b, 0, none⟩), .string ⟨s.toArray⟩] w fun e w' => e = .returned (.tuple #[]) ∧ IsW B b (l ++ encName s) f w' ∧ Below B w w' ∧ KW b w w' := by
  have h60 := name_len hv
  have hel := encName_len s
  have HE : Hid (encName s = encLabs (labelsOf s) ++ be 1 0) := Lib.hid rfl
  have hell : (encLabs (labelsOf s)).length ≤ 62 := by rw [HE.out, List.length_append, be_length] at hel; omega
  have HTk := Lib.hid fun i => encLabs_take_le (labelsOf s) i
  have hne := labelsOf_ne s
  have HJ := Lib.hid (join_labels s)
  have HDot := Lib.hid (labels_dot s)
  have hln : (joinD (labelsOf s)).length ≤ 1000000 := by rw [HJ.out]; omega
  have HLe : Hid (∀ a ∈ labelsOf s, a.length ≤ 20) := Lib.hid fun a ha => by
    unfold nameB at hv
    rw [Bool.and_eq_true] at hv
    exact (labB_len (List.all_eq_true.1 hv.2 a ha)).2
  have hbw := h.lt
  have HW := Lib.hid h; clear h hel
  have HLB := Lib.hid fun W => labels_any ⟨s.toArray⟩ W
  refine (callsIn_wide (n := 9)).1 ?_
  refine callsIn_of_wp_marks Tryz.func37 rfl trivial ?_ rfl
  simp only [Tryz.ntmps37, List.size_toArray, List.length_cons, List.length_nil, Nat.reduceAdd, Nat.reduceSub, Array.replicate_succ, Array.replicate_zero, List.push_toArray, List.append_toArray, List.nil_append, List.cons_append]
  refine wpIn_wide.2 ?_
  go_wp2_with (go_at_call 77; refine (HLB.out _).mono ?_; rintro e w' ⟨rfl, rfl⟩)
  refine (wpIn_wide (n := 9)).1 ?_
  have hb0 : Below w.heap.size w ((w.alloc (.cells #[.pointer (some ⟨b, 0, none⟩)] 198)).alloc (.cells #[.string ⟨s.toArray⟩] 9)) := below_alloc (below_alloc (Below.refl _ _))
  have HX0 := Lib.hid (show _ ∧ _ from ⟨HW.out.below hb0, block_alloc (alloc_new w (.cells #[.pointer (some ⟨b, 0, none⟩)] 198)) (.cells #[.string ⟨s.toArray⟩] 9)⟩)
  have HS0 : Hid (((w.alloc (.cells #[.pointer (some ⟨b, 0, none⟩)] 198)).alloc (.cells #[.string ⟨s.toArray⟩] 9)).cell? ⟨w.heap.size + 1, 0, none⟩ = some (.string ⟨(joinD (labelsOf s)).toArray⟩)) := Lib.hid (by
    rw [HJ.out]
    exact (cell_of_box (alloc_new' _ _ _ (by simp))).1)
  have hSZ : ((w.alloc (.cells #[.pointer (some ⟨b, 0, none⟩)] 198)).alloc (.cells #[.string ⟨s.toArray⟩] 9)).heap.size = w.heap.size + 2 := by simp
  have HB0 := Lib.hid hb0; clear hb0
  generalize (w.alloc (.cells #[.pointer (some ⟨b, 0, none⟩)] 198)).alloc (.cells #[.string ⟨s.toArray⟩] 9) = W0 at *
  refine wpIn_rangeFunc_lp (ι := Nat) (F := Fence.wide) rfl (by omega) (gf := 108) (lb := #[.pointer (some ⟨w.heap.size + 1, 0, none⟩)]) rfl trivial (enters_of Tryz.func108 (by kernel_rfl) rfl)
    (fun i => #[.string ⟨((labelsOf s).getD i []).toArray⟩]) (fun _ => rfl) (fun W => Below W0.heap.size W0 W) (fun i W => (∃ a, (labelsOf s)[i]? = some a) ∧ XNm w B b l f (labelsOf s) W0.heap.size i W) (fun i W => XNm w B b l f (labelsOf s) W0.heap.size (i + 1) W) (fun c W => False) (fun W => XNm w B b l f (labelsOf s) W0.heap.size (labelsOf s).length W)
    (fun o o' => ?j0) (fun i W r h => ?j1) (fun c W r h => h.elim) (fun W r h => ?j3)
    (fun r W h0 hk hY => labels1_wide 8 (by omega) (labelsOf s) hne HDot.out hln _ _ r (fun i W => XNm w B b l f (labelsOf s) W0.heap.size i W) (fun c W => False) (fun i W W' h hb => h.down hb hBw) (fun i a W1 ha hx hk => by have h := hY i W1 ⟨⟨a, ha⟩, hx⟩ hk; rw [show (labelsOf s).getD i [] = a from by rw [List.getD_eq_getElem?_getD, ha]; rfl] at h; exact h) W (bcell h0 HS0.out) ?x0 hk)
    (fun i a W => a = { tmps := #[.pointer (some ⟨b, 0, none⟩), .string ⟨s.toArray⟩, .pointer (some ⟨w.heap.size, 0, none⟩), undef, .string ⟨((labelsOf s).getD i []).toArray⟩, .string ⟨s.toArray⟩, .func (Fn.func 108) #[] #[.pointer (some ⟨w.heap.size + 1, 0, none⟩)], .string ⟨((labelsOf s).getD i []).toArray⟩, undef, undef, undef, undef, undef, undef, undef, undef, undef, undef, undef], defers := [] } ∧ (∃ a, (labelsOf s)[i]? = some a) ∧ XNm w B b l f (labelsOf s) W0.heap.size i W) (fun i a W r h => ?j5) ?assign ?body ?done ?stop
  case j0 => exact ((Below.refl _ _).alloc (Nat.le_refl _) o).alloc (by simp) o'
  case j1 => exact h.put (by omega) hbw hBw r
  case j3 => exact h.put (by omega) hbw hBw r
  case j5 => exact ⟨h.1, h.2.1, h.2.2.put (by omega) hbw hBw r⟩
  case x0 =>
    refine ⟨?_, bblock h0 HX0.out.2, (below_call HB0.out h0).mono hBw, KW.of_below (below_call HB0.out h0), hk.2, r, hk.1⟩
    have := HX0.out.1.below h0
    simpa [encLabs] using this
  case assign =>
    rintro l' i W ⟨ha, hX⟩
    gi_wp2
    exact ⟨⟨by trivial, by trivial⟩, by trivial, ha, hX⟩
  case body =>
    rintro l' i a' W ⟨rfl, ⟨a, ha⟩, hX⟩
    rw [show (labelsOf s).getD i [] = a from by rw [List.getD_eq_getElem?_getD, ha]; rfl]
    have HX := Lib.hid hX; have HA := Lib.hid ha; clear hX ha
    have hal := HLe.out a (List.mem_of_getElem? HA.out)
    have hti := HTk.out i
    have c2 := (cell_of_box HX.out.bx).1
    have hWB : B ≤ W.heap.size := Nat.le_trans hBw HX.out.below.size
    have HNu : Hid (Calls Tryz.prog 36 #[.pointer (some ⟨b, 0, none⟩), .int .i64 (a.length : Int), .int .i64 1] W fun e w' => e = .returned (.tuple #[]) ∧ IsW B b (l ++ encLabs ((labelsOf s).take i) ++ be 1 (a.length : Int)) f w' ∧ Below B W w' ∧ KW b W w') := Lib.hid (number_w B b (l ++ encLabs ((labelsOf s).take i)) f (a.length : Int) 1 W HX.out.wr (by omega) (by omega) (by omega) (by simp; omega) (by rw [List.length_append]; omega) hWB)
    have hasz : (⟨a.toArray⟩ : ByteArray).size = a.length := rfl
    gi_wp2_with (refine ⟨trivial, ?_⟩; gi_at_call 36; refine (CallsIn.inRound l' (callsIn_wide.2 HNu.out)).mono ?_; rintro e w2 ⟨rfl, hI2, hb2, hk2⟩; have hWB2 : B ≤ w2.heap.size := Nat.le_trans hWB hb2.size; have d2 := (cell_of_box (hk2.2 _ _ HX.out.bx (by omega) (box_ne b))).1; have HWr := Lib.hid (write_w B b _ f ⟨a.toArray⟩ w2 hI2 (by rw [hasz, List.length_append, List.length_append, be_length]; omega) hWB2))
    refine ⟨trivial, (CallsIn.inRound l' (callsIn_wide.2 HWr.out)).mono ?_⟩
    rintro e w3 ⟨rfl, hI3, hb3, hk3⟩
    gi_wp2
    exact HX.out.step (by omega) hbw a HA.out hI3 (hb2.trans hb3) (hk2.trans hk3)
  case done =>
    intro W hX hD
    have HX := Lib.hid hX; have HD := Lib.hid hD; clear hX hD
    have c2 := (cell_of_box HX.out.bx).1
    have hWB : B ≤ W.heap.size := Nat.le_trans hBw HX.out.below.size
    have hI := HX.out.wr
    rw [List.take_length] at hI
    have HNu := Lib.hid (number_w B b _ f 0 1 W hI (by omega) (by omega) (by omega) (by simp) (by rw [List.length_append]; omega) hWB)
    clear hI
    go_wp2_with fail
    refine HNu.out.mono ?_
    rintro e w3 ⟨rfl, hI3, hb3, hk3⟩
    have HI3 := Lib.hid hI3; clear hI3
    have hD3 := hk3.2 _ _ HD.out (by omega) (by intro c f e; cases e)
    go_wp2_with fail
    refine ⟨by simp, .inl ⟨_, _, rfl, run_takeDeferred (by first | exact hD3 | (rw [← hSZ]; exact hD3)), ?_⟩⟩
    refine ⟨_, results_none rfl _ _ _, rfl, ?_, below_put (HX.out.below.trans hb3) (by omega) _, (HX.out.kw.trans hk3).put (by omega) _⟩
    rw [HE.out, ← List.append_assoc]
    exact HI3.out.put (M := w.heap.size + 2) (by rw [← hSZ]; exact hD3) rfl _
  case stop => exact fun c W h => h.elim
end Go.Proofs.YtmgjcjacoegocaaGreatDoor.Dn
