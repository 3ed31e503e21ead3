/-
  The contract of dns.ValidName.
-/
import Derived.Test.YtmgjcjacoegocaaGreatDoorDnLab
import Derived.WalkMore
import Derived.LoopNIn
namespace Go.Proofs.YtmgjcjacoegocaaGreatDoor.Dn
set_option maxRecDepth 100000
open Go.RowKit Go.Proofs.YtmgjcjacoegocaaGreatDoor.Wire Go.Shelf
attribute [local go_sem] Oper.semAt_some

set_option maxHeartbeats 1000000 in
theorem inLabel_any (b : UInt8) (w : World) : Calls Tryz.prog 78 #[.int .u8 (b.toNat : Int)] w fun e w' => e = .returned (.bool (inLab b)) ∧ w = w' := by
  have h45 : (b = 45) ↔ b.toNat = 45 := ⟨fun e => by rw [e]; rfl, fun e => UInt8.toNat_inj.1 e⟩
  have HB : Hid (inLab b = decide ((97 ≤ b.toNat ∧ b.toNat ≤ 122) ∨ (48 ≤ b.toNat ∧ b.toNat ≤ 57) ∨ b.toNat = 45)) := Lib.hid (by
    unfold inLab; rw [Bool.eq_iff_iff]; simp [h45, or_assoc])
  clear h45
  go_enter Tryz.func78, Tryz.ntmps78
  go_wp2
  all_goals
    go_ret
    refine ⟨ret_bool ?_, rfl⟩
    rw [HB.out]
  all_goals
    first
      | (refine (decide_eq_false (fun h => ?_)).symm; omega)
      | (refine (decide_eq_true ?_).symm; omega)
      | (exact decide_eq_decide.2 (by omega))
      | (rw [Bool.eq_iff_iff]; simp; omega)
theorem labB_bytes (s : ByteArray) (h1 : 1 ≤ s.size) (h20 : s.size ≤ 20) : labB s.data.toList = (!decide (s[0].toNat = 45) && !decide ((s[s.size - 1]'(by omega)).toNat = 45) && s.data.toList.all inLab) := by
  have e : ∀ b : UInt8, (b = 45) ↔ b.toNat = 45 := fun b => ⟨fun e => by rw [e]; rfl, fun e => UInt8.toNat_inj.1 e⟩
  have hl : s.data.toList.length = s.size := rfl
  have e0 : s.data.toList.head? = some s[0] := by
    rw [List.head?_eq_getElem?, List.getElem?_eq_getElem (by omega)]; rfl
  have e1 : s.data.toList.getLast? = some (s[s.size - 1]'(by omega)) := by
    rw [List.getLast?_eq_getElem?, List.getElem?_eq_getElem (by omega)]; rfl
  unfold labB
  rw [e0, e1, hl, decide_eq_true h1, decide_eq_true h20]
  simp [e]
theorem labB_short (s : ByteArray) (h : ¬ (1 ≤ s.size ∧ s.size ≤ 20)) : labB s.data.toList = false := by
  have hl : s.data.toList.length = s.size := rfl
  unfold labB
  rw [hl]
  by_cases h1 : 1 ≤ s.size
  · rw [decide_eq_false (show ¬ s.size ≤ 20 by omega)]; simp
  · rw [decide_eq_false h1]; simp
theorem mem_le_sum (a : List UInt8) : ∀ L : List (List UInt8), a ∈ L → a.length + L.length ≤ (L.map List.length).sum + L.length
  | [], h => by simp at h
  | b :: L, h => by
    simp only [List.map_cons, List.sum_cons, List.length_cons]
    rcases List.mem_cons.1 h with rfl | h
    · omega
    · have := mem_le_sum a L h
      omega
theorem labels_le (s : List UInt8) (l : List UInt8) (h : l ∈ labelsOf s) : l.length ≤ s.length := by
  have h1 := mem_le_sum l _ h
  have h2 := labelsOf_len s
  have h3 : 0 < (labelsOf s).length := List.length_pos_iff.2 (labelsOf_ne s)
  omega
structure XVn (w : World) (L : List (List UInt8)) (i : Nat) (W : World) : Prop where
  cell : W.heap[w.heap.size]? = some (.cells #[.bool true] 4 (0, 0))
  below : Below w.heap.size w W
  good : ∀ j a, j < i → L[j]? = some a → labB a = true
structure JVn (w : World) (L : List (List UInt8)) (W : World) : Prop where
  cell : W.heap[w.heap.size]? = some (.cells #[.bool false] 4 (0, 0))
  below : Below w.heap.size w W
  bad : ∃ a ∈ L, labB a = false
theorem XVn.down {w L i W W'} (h : XVn w L i W) (hb : Below W.heap.size W W') : XVn w L i W' := ⟨bblock hb h.cell, below_call h.below hb, h.good⟩
theorem XVn.put {w L i W} (h : XVn w L i W) {l : Nat} (hl : w.heap.size + 1 ≤ l) (o : Obj) : XVn w L i (W.putObj l o) :=
  ⟨(World.putObj_heap_other (by omega)).trans h.cell, ⟨h.below.os, h.below.tape, h.below.output, by simpa [World.putObj] using h.below.size, fun k hk => (World.putObj_heap_other (by omega)).trans (h.below.block k hk)⟩, h.good⟩
theorem JVn.put {w L W} (h : JVn w L W) {l : Nat} (hl : w.heap.size + 1 ≤ l) (o : Obj) : JVn w L (W.putObj l o) :=
  ⟨(World.putObj_heap_other (by omega)).trans h.cell, ⟨h.below.os, h.below.tape, h.below.output, by simpa [World.putObj] using h.below.size, fun k hk => (World.putObj_heap_other (by omega)).trans (h.below.block k hk)⟩, h.bad⟩
theorem XVn.fail {w L i W} (h : XVn w L i W) (a : List UInt8) (ha : L[i]? = some a) (hb : labB a = false) : JVn w L (W.setCell ⟨w.heap.size, 0, none⟩ (.bool false)) :=
  ⟨cells_eq (block_setCell h.cell) rfl, Below.setCell h.below (Nat.le_refl _) _, a, List.mem_of_getElem? ha, hb⟩
theorem below_put {B : Nat} {w W : World} (h : Below B w W) {l : Nat} (hl : B ≤ l) (o : Obj) : Below B w (W.putObj l o) :=
  ⟨h.os, h.tape, h.output, by simpa [World.putObj] using h.size, fun k hk => (World.putObj_heap_other (by omega)).trans (h.block k hk)⟩
theorem keeps_below {W W' : World} (h : Below W.heap.size W W') : KeepsOthers W W' := ⟨h.size, fun _ _ hk _ => bblock h hk⟩
set_option maxHeartbeats 4000000 in
theorem vname_any (s : ByteArray) (w : World) (hm : s.size ≤ 9223372036854775807) :
    Calls Tryz.prog 27 #[.string s] w fun e w' => e = .returned (.bool (nameB s.data.toList)) ∧ Below w.heap.size w w' := by
  have hll : s.data.toList.length = s.size := rfl
  by_cases h60 : s.size ≤ 60
  · have HN : Hid (nameB s.data.toList = (labelsOf s.data.toList).all labB) := Lib.hid (by unfold nameB; rw [decide_eq_true (by omega), Bool.true_and])
    have hne := labelsOf_ne s.data.toList
    have HJ := Lib.hid (join_labels s.data.toList)
    have HDot := Lib.hid (labels_dot s.data.toList)
    have HLe : Hid (∀ a ∈ labelsOf s.data.toList, a.length ≤ 60) := Lib.hid fun a h => Nat.le_trans (labels_le _ a h) (by omega)
    have HIL := Lib.hid inLabel_any
    have hln : (joinD (labelsOf s.data.toList)).length ≤ 1000000 := by rw [HJ.out]; omega
    generalize hL : labelsOf s.data.toList = L at *
    clear hL
    have hq : decide ((60 : Int) < (s.size : Int)) = false := by simp; omega
    have HC := Lib.hid (alloc_new w (.cells #[.bool true] 4))
    have HB := below_alloc (o := .cells #[.bool true] 4) (Below.refl w.heap.size w)
    have HLB := Lib.hid fun W => labels_any s W
    refine (callsIn_wide (n := 9)).1 ?_
    refine callsIn_of_wp_marks Tryz.func27 rfl trivial ?_ rfl
    simp only [Tryz.ntmps27, List.size_toArray, List.length_cons, List.length_nil, Nat.reduceAdd, Nat.reduceSub, Array.replicate_succ, Array.replicate_zero, List.push_toArray, List.append_toArray, List.nil_append, List.cons_append]
    refine wpIn_wide.2 ?_
    go_wp2_with fail
    go_step3
    go_wp2_with fail
    go_step3
    go_wp2_with (go_at_call 77; refine (HLB.out _).mono ?_; rintro e w' ⟨rfl, rfl⟩)
    refine (wpIn_wide (n := 9)).1 ?_
    have HX0 : Hid (XVn w L 0 ((w.alloc (.cells #[.bool true] 4)).alloc (.cells #[.string s] 9))) := Lib.hid ⟨block_alloc HC.out _, below_alloc HB, fun j a h => by omega⟩
    have HS0 : Hid (((w.alloc (.cells #[.bool true] 4)).alloc (.cells #[.string s] 9)).cell? ⟨w.heap.size + 1, 0, none⟩ = some (.string ⟨(joinD L).toArray⟩)) := Lib.hid (by
      rw [HJ.out, ← ba_self]
      exact (cell_of_box (alloc_new' _ _ _ (by simp))).1)
    have hSZ : ((w.alloc (.cells #[.bool true] 4)).alloc (.cells #[.string s] 9)).heap.size = w.heap.size + 2 := by simp
    have hlt : w.heap.size + 1 < ((w.alloc (.cells #[.bool true] 4)).alloc (.cells #[.string s] 9)).heap.size := by simp
    clear HC HB
    generalize (w.alloc (.cells #[.bool true] 4)).alloc (.cells #[.string s] 9) = W0 at *
    refine wpIn_rangeFunc_st (F := Fence.wide) rfl (by omega) (gf := 108) (lb := #[.pointer (some ⟨w.heap.size + 1, 0, none⟩)]) rfl trivial (enters_of Tryz.func108 (by kernel_rfl) rfl)
      (fun i => #[.string ⟨(L.getD i []).toArray⟩]) (fun _ => rfl) (fun W => XVn w L 0 W ∧ W.cell? ⟨w.heap.size + 1, 0, none⟩ = some (.string ⟨(joinD L).toArray⟩)) (fun i W => (∃ a, L[i]? = some a) ∧ XVn w L i W) (fun i W => XVn w L (i + 1) W) (fun c W => c = .exit 0 ∧ JVn w L W) (fun W => XVn w L L.length W)
      (fun o o' => ?j0) (fun i W l o hl h => ?j1) (fun i W l o hl h => ?j2) (fun c W l o hl h => ?j3) (fun W l o hl h => ?j4)
      (fun l r W hl h0 hk hY => labels1_wide 8 (by omega) L hne HDot.out hln _ l r (fun i W => XVn w L i W) (fun c W => c = .exit 0 ∧ JVn w L W) (fun i W W' h hb => h.down hb) (fun i a W1 ha hx hk => by have h := hY i W1 ⟨⟨a, ha⟩, hx⟩ hk; rw [show L.getD i [] = a from by rw [List.getD_eq_getElem?_getD, ha]; rfl] at h; exact h) W h0.2 h0.1 hk)
      (fun i => { tmps := #[.string s, undef, .bool false, .pointer (some ⟨w.heap.size, 0, none⟩), .string ⟨(L.getD i []).toArray⟩, undef, undef, .string s, .int .i64 s.size, .bool false, .string s, .func (Fn.func 108) #[] #[.pointer (some ⟨w.heap.size + 1, 0, none⟩)], .string ⟨(L.getD i []).toArray⟩, undef, undef, undef, undef, undef, undef, undef, undef, undef, undef, undef, undef, undef, undef, undef, undef, undef, undef, undef, undef, undef, undef, undef, undef, undef, undef, undef, undef, undef, undef, undef], defers := [] }) ?assign ?body ?done ?stop
    case j0 => exact ⟨HX0.out.down (((Below.refl _ _).alloc (Nat.le_refl _) o).alloc (by simp) o'), bcell (((Below.refl _ _).alloc (Nat.le_refl _) o).alloc (by simp) o') HS0.out⟩
    case j1 => exact ⟨h.1, h.2.put (by omega) o⟩
    case j2 => exact h.put (by omega) o
    case j3 => exact ⟨h.1, h.2.put (by omega) o⟩
    case j4 => exact h.put (by omega) o
    case assign =>
      intro l i W K hK
      gi_wp2
      exact hK
    case body =>
      rintro l i W ⟨⟨a, ha⟩, hX⟩
      rw [show L.getD i [] = a from by rw [List.getD_eq_getElem?_getD, ha]; rfl]
      have HX := Lib.hid hX; have HA := Lib.hid ha; clear hX ha
      have HLab : Hid (labB (⟨a.toArray⟩ : ByteArray).data.toList = labB a) := Lib.hid rfl
      have hal : a.length ≤ 60 := HLe.out a (List.mem_of_getElem? HA.out)
      have hsz : (⟨a.toArray⟩ : ByteArray).size = a.length := rfl
      rw [← hsz] at hal
      clear hsz
      generalize (⟨a.toArray⟩ : ByteArray) = x at *
      have c0 := (cell_of_box HX.out.cell).1; have z0 := (cell_of_box HX.out.cell).2
      by_cases h1 : 1 ≤ x.size
      · by_cases h20 : x.size ≤ 20
        · have HLB2 := Lib.hid (labB_bytes x h1 h20)
          have b0 : (0 : Int) < (x.size : Int) := by omega
          have b1 : (0 : Int) ≤ (x.size : Int) - 1 := by omega
          have b2 : (x.size : Int) - 1 < (x.size : Int) := by omega
          have b3 : ((x.size : Int) - 1).toNat = x.size - 1 := by omega
          have b4 : x.size - 1 < x.size := by omega
          have b5 : decide ((x.size : Int) < 1) = false := by simp; omega
          have b6 : decide ((20 : Int) < (x.size : Int)) = false := by simp; omega
          by_cases hf : x[0].toNat = 45
          · have b7 : ((x[0].toNat : Int) == 45) = true := by simp; omega
            gi_wp2
            exact ⟨KeepsOthers.setCell _ _ _, rfl, HX.out.fail a HA.out (by rw [← HLab.out]; rw [HLB2.out, decide_eq_true hf]; simp)⟩
          · have b7 : ((x[0].toNat : Int) == 45) = false := by simp; omega
            by_cases hg : (x[x.size - 1]'(by omega)).toNat = 45
            · have b8 : (((x[x.size - 1]'(by omega)).toNat : Int) == 45) = true := by simp; omega
              gi_wp2
              exact ⟨KeepsOthers.setCell _ _ _, rfl, HX.out.fail a HA.out (by rw [← HLab.out]; rw [HLB2.out, decide_eq_true hg]; simp)⟩
            · have b8 : (((x[x.size - 1]'(by omega)).toNat : Int) == 45) = false := by simp; omega
              gi_wp2
              gi_loopw [34] (fun u wr => ∃ k : Nat, k ≤ x.size ∧ u = .int .i64 (k : Int) ∧ wr = W ∧ ∀ j (h : j < x.size), j < k → inLab (x[j]'h) = true) (fun u wr => x.size - (intOf u).toNat)
              case atStart => exact ⟨0, by omega, rfl, rfl, fun j h q => by omega⟩
              case round =>
                obtain ⟨k, hk, rfl, rfl, hin⟩ := hrel
                have HIn := Lib.hid hin; clear hin
                by_cases hlt : k < x.size
                · have hkl : decide ((k : Int) < (x.size : Int)) = true := by simp; omega
                  have HI := Lib.hid fun W => HIL.out x[k] W
                  cases hb : inLab x[k] with
                  | true =>
                    rw [hb] at HI
                    gi_wp2_with (refine ⟨trivial, ?_⟩; gi_at_call 78; refine (CallsIn.inRound l (callsIn_wide.2 (HI.out _))).mono ?_; rintro e w2 ⟨rfl, rfl⟩)
                    refine ⟨⟨k + 1, by omega, by go_num, trivial, fun j h q => ?_⟩, by simp [intOf]; omega⟩
                    by_cases e : j = k
                    · subst e; exact hb
                    · exact HIn.out j h (by omega)
                  | false =>
                    rw [hb] at HI
                    gi_wp2_with (refine ⟨trivial, ?_⟩; gi_at_call 78; refine (CallsIn.inRound l (callsIn_wide.2 (HI.out _))).mono ?_; rintro e w2 ⟨rfl, rfl⟩)
                    refine ⟨KeepsOthers.setCell _ _ _, rfl, HX.out.fail a HA.out ?_⟩
                    rw [← HLab.out, HLB2.out, show x.data.toList.all inLab = false from List.all_eq_false.2 ⟨x[k], List.getElem_mem (l := x.data.toList) hlt, by rw [hb]; simp⟩]
                    simp
                · have hkl : decide ((k : Int) < (x.size : Int)) = false := by simp; omega
                  gi_wp2
                  refine ⟨KeepsOthers.refl _, HX.out.cell, HX.out.below, fun j b hj hjb => ?_⟩
                  by_cases e : j = i
                  · subst e
                    obtain rfl : a = b := Option.some.inj (HA.out.symm.trans hjb)
                    rw [← HLab.out, HLB2.out, decide_eq_false hf, decide_eq_false hg]
                    simp only [Bool.not_false, Bool.true_and, List.all_eq_true]
                    intro y hy
                    obtain ⟨m, hm', rfl⟩ := List.getElem_of_mem hy
                    exact HIn.out m hm' (by have : m < x.size := hm'; omega)
                  · exact HX.out.good j b (by omega) hjb
        · have b5 : decide ((x.size : Int) < 1) = false := by simp; omega
          have b6 : decide ((20 : Int) < (x.size : Int)) = true := by simp; omega
          gi_wp2
          exact ⟨KeepsOthers.setCell _ _ _, rfl, HX.out.fail a HA.out (by rw [← HLab.out]; exact labB_short x (by omega))⟩
      · have b5 : decide ((x.size : Int) < 1) = true := by simp; omega
        gi_wp2
        exact ⟨KeepsOthers.setCell _ _ _, rfl, HX.out.fail a HA.out (by rw [← HLab.out]; exact labB_short x (by omega))⟩
    case done =>
      intro W hX hD
      have c0 := (cell_of_box hX.cell).1
      have HX := Lib.hid hX; have HD := Lib.hid hD; clear hX hD
      go_wp2_with fail
      rw [Exit.noGoto_ret]
      refine ⟨by simp, .inl ⟨_, _, rfl, run_takeDeferred (by exact HD.out), ?_⟩⟩
      refine ⟨_, results_tmp Tryz.results27 _ _ _, ?_, below_put (by exact HX.out.below) (by omega) _⟩
      rw [HN.out, List.all_eq_true.2 fun a h => ?_]
      · rfl
      · obtain ⟨m, hm', rfl⟩ := List.getElem_of_mem h
        exact HX.out.good m _ hm' (List.getElem?_eq_getElem hm')
    case stop =>
      rintro c W ⟨rfl, hX⟩ hD
      have c0 := (cell_of_box hX.cell).1
      have HX := Lib.hid hX; have HD := Lib.hid hD; clear hX hD
      refine wpIn_wide.2 ?_
      go_wp2_with fail
      rw [Exit.noGoto_ret]
      refine ⟨by simp, .inl ⟨_, _, rfl, run_takeDeferred (by exact HD.out), ?_⟩⟩
      refine ⟨_, results_tmp Tryz.results27 _ _ _, ?_, below_put (by exact HX.out.below) (by omega) _⟩
      obtain ⟨a, ha, hb⟩ := HX.out.bad
      rw [HN.out, List.all_eq_false.2 ⟨a, ha, by rw [hb]; simp⟩]
      rfl
  · have HN : Hid (nameB s.data.toList = false) := Lib.hid (by unfold nameB; rw [decide_eq_false (by omega), Bool.false_and])
    have hq : ¬ (s.size : Int) ≤ 60 := by omega
    rw [HN.out]
    refine (callsIn_wide (n := 9)).1 ?_
    refine callsIn_of_wp_marks Tryz.func27 rfl trivial ?_ rfl
    simp only [Tryz.ntmps27, List.size_toArray, List.length_cons, List.length_nil, Nat.reduceAdd, Nat.reduceSub, Array.replicate_succ, Array.replicate_zero, List.push_toArray, List.append_toArray, List.nil_append, List.cons_append]
    refine wpIn_wide.2 ?_
    go_wp2_with fail
    go_step3
    go_wp2_with fail
    rw [Exit.noGoto_ret]
    exact ⟨_, results_tmp Tryz.results27 _ _ _, rfl, Below.refl _ _⟩
end Go.Proofs.YtmgjcjacoegocaaGreatDoor.Dn
