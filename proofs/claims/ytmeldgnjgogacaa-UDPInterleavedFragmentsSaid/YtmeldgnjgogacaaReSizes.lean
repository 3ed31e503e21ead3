/-
  The contracts of New and of (*Table).Sizes.
-/
import Derived.Test.YtmeldgnjgogacaaReAbs
import Derived.Maps.RangeRun
namespace Go.Proofs.Ytmeldgnjgogacaa.Re
set_option maxRecDepth 100000
open Go.RowKit Go.Proofs.Ytmeldgnjgogacaa.Wire
open Go.Proofs.Ytmeldgnjgogacaa.Ip (Pk)

def NewPostT (w : World) (x : Ending) (w' : World) : Prop := ∃ T m clk, x = .returned (.pointer (some ⟨T, 0, none⟩)) ∧ Tab w' T m #[] clk none 0 [] ∧ Below w.heap.size w w' ∧ w.heap.size ≤ T ∧ w.heap.size ≤ m
theorem new_tab (w : World) : Calls Try.prog 13 #[] w (NewPostT w) := by
  have hmm := @run_makeMap Try.prog
  go_enter Try.func13, Try.ntmps13
  go_wp2_with fail
  go_ret
  refine ⟨w.heap.size + 1, w.heap.size, _, by simp, ⟨alloc_new' _ _ _ (by simp), block_alloc (alloc_new _ _) _, ⟨rfl, rfl⟩, List.nodup_nil, ⟨fun x hx => by simp at hx, by simp⟩, .inl ⟨rfl, rfl, rfl, rfl⟩, fun e he => by simp at he, by omega, fun a q => (by cases q), fun e he => by simp at he, fun i j e f he => by simp at he⟩, below_alloc (below_alloc (Below.refl _ _)), by omega, Nat.le_refl _⟩

/-- the bytes of the datagrams that have not been seen -/
def sumU : List MapEntry → List En → Array Nat → Int
  | x :: l, e :: L, s => (if s.contains x.born then 0 else e.H.cnt) + sumU l L s
  | _, _, _ => 0
theorem sumU_push_other : ∀ (l : List MapEntry) (L : List En) (s : Array Nat) (b : Nat), b ∉ l.map (·.born) → sumU l L (s.push b) = sumU l L s
  | [], L, s, b, _ => by cases L <;> rfl
  | x :: l, [], s, b, _ => rfl
  | x :: l, e :: L, s, b, h => by
    simp only [List.map_cons, List.mem_cons, not_or] at h
    simp only [sumU, sumU_push_other l L s b h.2]
    congr 1
    have : (s.push b).contains x.born = s.contains x.born := by
      rw [Bool.eq_iff_iff]
      simp only [Array.contains_iff_mem, Array.mem_push]
      exact ⟨fun q => q.resolve_right (fun r => h.1 r.symm), .inl⟩
    rw [this]
theorem sumU_step : ∀ (l : List MapEntry) (L : List En) (s : Array Nat) (x : MapEntry), l.map (·.val) = L.map En.ptr → (l.map (·.born)).Nodup → x ∈ l → s.contains x.born = false →
    ∃ e ∈ L, x.val = e.ptr ∧ sumU l L s = e.H.cnt + sumU l L (s.push x.born)
  | [], _, _, _, _, _, hx, _ => by cases hx
  | y :: l, [], _, _, h, _, _, _ => by cases h
  | y :: l, e :: L, s, x, h, hn, hx, hs => by
    simp only [List.map_cons, List.cons.injEq, List.nodup_cons] at h hn
    rcases List.mem_cons.1 hx with rfl | hx
    · refine ⟨e, List.mem_cons_self .., h.1, ?_⟩
      simp only [sumU, hs, sumU_push_other l L s x.born hn.1]
      simp
    · obtain ⟨f, hf, h1, h2⟩ := sumU_step l L s x h.2 hn.2 hx hs
      refine ⟨f, List.mem_cons_of_mem _ hf, h1, ?_⟩
      have hne : x.born ≠ y.born := fun q => hn.1 (by rw [← q]; exact List.mem_map.2 ⟨x, hx, rfl⟩)
      have : (s.push x.born).contains y.born = s.contains y.born := by
        rw [Bool.eq_iff_iff]
        simp only [Array.contains_iff_mem, Array.mem_push]
        exact ⟨fun q => q.resolve_right (fun r => hne r.symm), .inl⟩
      simp only [sumU, this, h2]
      omega
theorem sumU_done : ∀ (l : List MapEntry) (L : List En) (s : Array Nat), (∀ x ∈ l, s.contains x.born = true) → sumU l L s = 0
  | [], L, s, _ => by cases L <;> rfl
  | x :: l, [], s, _ => rfl
  | x :: l, e :: L, s, h => by
    simp only [sumU, h x (List.mem_cons_self ..), if_true, Int.zero_add]
    exact sumU_done l L s (fun y hy => h y (List.mem_cons_of_mem _ hy))
def sumC (L : List En) : Int := (L.map fun e => e.H.cnt).foldr (· + ·) 0
theorem sumU_start : ∀ (l : List MapEntry) (L : List En), l.length = L.length → sumU l L #[] = sumC L
  | [], [], _ => rfl
  | [], _ :: _, h => by simp at h
  | _ :: _, [], h => by simp at h
  | x :: l, e :: L, h => by
    simp only [List.length_cons, Nat.add_right_cancel_iff] at h
    simp [sumU, sumC, sumU_start l L h]
theorem sumU_bound : ∀ (l : List MapEntry) (L : List En) (s : Array Nat), (∀ e ∈ L, 0 ≤ e.H.cnt ∧ e.H.cnt ≤ 4000) → 0 ≤ sumU l L s ∧ sumU l L s ≤ sumC L
  | [], [], s, _ => ⟨Int.le_refl _, Int.le_refl _⟩
  | [], e :: L, s, h => by
    have := sumU_bound [] L s (fun e he => h e (List.mem_cons_of_mem _ he))
    have h0 : sumU [] L s = 0 := by cases L <;> rfl
    have := h e (List.mem_cons_self ..)
    simp [sumU, sumC] at *; omega
  | _ :: _, [], s, _ => ⟨Int.le_refl _, Int.le_refl _⟩
  | x :: l, e :: L, s, h => by
    have := sumU_bound l L s (fun e he => h e (List.mem_cons_of_mem _ he))
    have := h e (List.mem_cons_self ..)
    simp only [sumU, sumC, List.map_cons, List.foldr_cons] at *
    split <;> omega
theorem sumC_bound : ∀ (L : List En), (∀ e ∈ L, 0 ≤ e.H.cnt ∧ e.H.cnt ≤ 4000) → 0 ≤ sumC L ∧ sumC L ≤ 4000 * (L.length : Int)
  | [], _ => ⟨Int.le_refl _, Int.le_refl _⟩
  | e :: L, h => by
    have := sumC_bound L (fun e he => h e (List.mem_cons_of_mem _ he))
    have := h e (List.mem_cons_self ..)
    simp only [sumC, List.map_cons, List.foldr_cons, List.length_cons] at *
    omega
def leftAt (es : Array MapEntry) (W : World) (r : Nat) : Nat := match W.heap[r]? with | some (.mapIter _ _ seen _) => (leftOf es seen).size | _ => 0
theorem leftAt_of {es : Array MapEntry} {W : World} {r : Nat} {a : Option Nat} {s : Nat} {seen : Array Nat} {c : Nat} (h : W.heap[r]? = some (.mapIter a s seen c)) : leftAt es W r = (leftOf es seen).size := by unfold leftAt; rw [h]
set_option maxHeartbeats 4000000 in
theorem sizes_tab (T m : Nat) (es : Array MapEntry) (clk : Nat) (O : Option Addr) (oc : Nat) (L : List En) (w : World) (h : Tab w T m es clk O oc L) (hinv : ∀ e ∈ L, HInv e.H) (hl9 : L.length ≤ 1000) :
    Calls Try.prog 23 #[.pointer (some ⟨T, 0, none⟩)] w fun x w' => x = .returned (.tuple #[.int .i64 (L.length : Int), .int .i64 (sumC L)]) ∧ Below w.heap.size w w' := by
  have q0 := (cell_of_block (k := 0) h.tab rfl).1
  have hr := run_range_map (P := Try.prog) w _ _ _ m es clk underM h.map
  unfold tyM at hr
  have HT := Lib.hid h; have HV := Lib.hid hinv; clear h hinv
  have hcb : ∀ e ∈ L, 0 ≤ e.H.cnt ∧ e.H.cnt ≤ 4000 := fun e he => (HV.out e he).cntB
  have HC := Lib.hid hcb; clear hcb
  have hsb := sumC_bound L HC.out
  have HZ : Hid ((w.alloc (.mapIter (some m) clk #[] clk)).heap[w.heap.size]? = some (.mapIter (some m) clk #[] clk)) := Lib.hid (alloc_new _ _)
  have HB : Hid (Below w.heap.size w (w.alloc (.mapIter (some m) clk #[] clk))) := Lib.hid (below_alloc (Below.refl _ _))
  have hmlt := HT.out.lt (.inr (.inl rfl) : TOwn T m O L m)
  have hTlt := HT.out.lt (.inl rfl : TOwn T m O L T)
  go_enter Try.func23, Try.ntmps23
  go_wp2_with fail
  go_loopw [4] (fun b wr => ∃ (k : Int) (seen : Array Nat) (c0 : Nat), b = .int .i64 k ∧ 0 ≤ k ∧ k + sumU es.toList L seen = sumC L ∧ wr.heap[w.heap.size]? = some (.mapIter (some m) clk seen c0) ∧ clk ≤ c0 ∧ Below w.heap.size w wr) (fun _ wr => leftAt es wr w.heap.size)
  case atStart => exact ⟨0, #[], clk, rfl, Int.le_refl _, by rw [sumU_start es.toList L (by have := congrArg List.length HT.out.ents.1; simpa using this)]; omega, HZ.out, Nat.le_refl _, HB.out⟩
  case round =>
    clear hr q0
    obtain ⟨k, seen, c0, rfl, hk0, hsum, hit, hcc, hb⟩ := hrel
    have HIT := Lib.hid hit; have HBW := Lib.hid hb; have HSUM := Lib.hid hsum; clear hit hb hsum
    have HTW := Lib.hid (HT.out.below HBW.out)
    have hel : (es.size : Int) = (L.length : Int) := by have := congrArg List.length HT.out.ents.1; simp at this; omega
    rcases run_next_at (P := Try.prog) wr 0 w.heap.size m clk c0 seen es clk HIT.out HTW.out.map HTW.out.stamp.1 hcc with ⟨h0, hnx⟩ | ⟨x, hx, w1, hw1, hnx⟩
    · have hs0 : sumU es.toList L seen = 0 := sumU_done _ _ _ (fun x hx => by
        cases hc : seen.contains x.born with
        | true => rfl
        | false =>
          exfalso
          have : x ∈ leftOf es seen := by unfold leftOf; rw [Array.mem_filter]; exact ⟨by simpa using hx, by rw [hc]; rfl⟩
          have := Array.size_pos_of_mem this
          omega)
      have q0 := (cell_of_block (k := 0) HTW.out.tab rfl).1
      have hm := HTW.out.map
      have hK : k = sumC L := by have := HSUM.out; omega
      have HK := Lib.hid hK; have HEL := Lib.hid hel
      have hlen : (Builtin.len_ #[tyM] 3 #[.map (some m)]).run Try.prog wr = .ok (.int .i64 (L.length : Int)) wr := by
        rw [← hel]
        exact run_len_map wr _ _ m es clk (by kernel_rfl) hm
      unfold tyM at hlen
      clear hs0 h0 hK hel hm
      go_wp2_with fail
      go_ret2
      exact ⟨by rw [HK.out]; rfl, HBW.out⟩
    · obtain ⟨hxm, hxs⟩ := mem_left hx
      obtain ⟨e, he, hve, hsu⟩ := sumU_step es.toList L seen x HTW.out.ents.2 HTW.out.stamp.2 hxm hxs
      have hb1 : Below w.heap.size w w1 ∧ w1.heap = wr.heap := by
        rcases hw1 with rfl | rfl
        · exact ⟨HBW.out, rfl⟩
        · exact ⟨HBW.out.drew, rfl⟩
      obtain ⟨W2, hW2⟩ : ∃ W2 : World, W2 = Go.ChangeMaps.setBlock w1 w.heap.size (.mapIter (some m) clk (seen.push x.born) clk) := ⟨_, rfl⟩
      rw [← hW2] at hnx
      have hI2 : W2.heap[w.heap.size]? = some (.mapIter (some m) clk (seen.push x.born) clk) := by rw [hW2]; exact block_setObj_same (W := w1) (by rw [hb1.2]; exact HIT.out)
      have hB2 : Below w.heap.size w W2 := by
        rw [hW2]
        exact below_setObj hb1.1 (Nat.le_refl _) _
      have hT2 := HT.out.below hB2
      have hent := run_entry_at (P := Try.prog) W2 w.heap.size m clk seen es clk x hI2 hT2.map hxm hT2.stamp.2
      rw [hve] at hnx hent
      unfold En.ptr at hnx hent
      have HB2 := Lib.hid hB2; have HI2 := Lib.hid hI2; have HSU := Lib.hid hsu
      have HSH := Lib.hid (left_shrinks es seen x hx)
      have q4 := (cell_of_block (k := 4) (hT2.half e he).1.1 rfl).1
      have hcnt := HC.out e he
      have hrest := sumU_bound es.toList L (seen.push x.born) HC.out
      have hkb : k + e.H.cnt ≤ 4000 * (L.length : Int) := by have := HSUM.out; omega
      clear hW2 hI2 hB2 hT2 hsu hve hb1 hw1 hx hxm hxs
      go_wp2_with fail
      go_roundw
      case rel => exact ⟨k + e.H.cnt, _, clk, rfl, by omega, by have := HSUM.out; have := HSU.out; omega, HI2.out, Nat.le_refl _, HB2.out⟩
      case measure => rw [leftAt_of HI2.out, leftAt_of HIT.out]; exact HSH.out
end Go.Proofs.Ytmeldgnjgogacaa.Re
