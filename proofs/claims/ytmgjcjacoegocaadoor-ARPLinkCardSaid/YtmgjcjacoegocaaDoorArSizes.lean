/-
  The contract of (*Table).Sizes.
-/
import Derived.Test.YtmgjcjacoegocaaDoorArAbs
import Derived.Maps.RangeRun
import Derived.LoopTactic
namespace Go.Proofs.YtmgjcjacoegocaaDoor.Ar
set_option maxRecDepth 100000
open Go.RowKit Go.Proofs.YtmgjcjacoegocaaDoor.Wire

/-- how many packets wait at an entry -/
def Ev.n : Ev → Int
  | .inc held _ _ _ => held.length
  | .res .. => 0
def En.n (e : En) : Int := e.v.n
theorem En.n_bd {W : World} {e : En} (h : e.ok W) : 0 ≤ e.n ∧ e.n ≤ 4 := by
  obtain ⟨k, v, eb, Hb, hc⟩ := e
  cases v with
  | inc held sent first last =>
    have := h.2.2.2.1
    unfold En.n Ev.n
    dsimp only at this ⊢; omega
  | res mac since used => unfold En.n Ev.n; dsimp only; omega
/-- the pending packets of the entries that have not been seen -/
def sumU : List MapEntry → List En → Array Nat → Int
  | x :: l, e :: L, s => (if s.contains x.born then 0 else e.n) + sumU l L s
  | _, _, _ => 0
theorem sumU_push_other : ∀ (l : List MapEntry) (L : List En) (s : Array Nat) (b : Nat), b ∉ l.map (·.born) → sumU l L (s.push b) = sumU l L s
  | [], L, s, b, _ => by cases L <;> rfl
  | x :: l, [], s, b, _ => rfl
  | x :: l, e :: L, s, b, h => by
    simp only [List.map_cons, List.mem_cons, not_or] at h
    simp only [sumU, sumU_push_other l L s b h.2]
    congr 1
    have : (s.push b).contains x.born = s.contains x.born := by
      rw [Bool.eq_iff_iff]
      simp only [Array.contains_iff_mem, Array.mem_push]
      exact ⟨fun q => q.resolve_right (fun r => h.1 r.symm), .inl⟩
    rw [this]
theorem sumU_step : ∀ (l : List MapEntry) (L : List En) (s : Array Nat) (x : MapEntry), l.map (·.val) = L.map En.val → (l.map (·.born)).Nodup → x ∈ l → s.contains x.born = false →
    ∃ e ∈ L, x.val = e.val ∧ sumU l L s = e.n + sumU l L (s.push x.born)
  | [], _, _, _, _, _, hx, _ => by cases hx
  | y :: l, [], _, _, h, _, _, _ => by cases h
  | y :: l, e :: L, s, x, h, hn, hx, hs => by
    simp only [List.map_cons, List.cons.injEq, List.nodup_cons] at h hn
    rcases List.mem_cons.1 hx with rfl | hx
    · refine ⟨e, List.mem_cons_self .., h.1, ?_⟩
      simp only [sumU, hs, sumU_push_other l L s x.born hn.1]
      simp
    · obtain ⟨f, hf, h1, h2⟩ := sumU_step l L s x h.2 hn.2 hx hs
      refine ⟨f, List.mem_cons_of_mem _ hf, h1, ?_⟩
      have hne : x.born ≠ y.born := fun q => hn.1 (by rw [← q]; exact List.mem_map.2 ⟨x, hx, rfl⟩)
      have : (s.push x.born).contains y.born = s.contains y.born := by
        rw [Bool.eq_iff_iff]
        simp only [Array.contains_iff_mem, Array.mem_push]
        exact ⟨fun q => q.resolve_right (fun r => hne r.symm), .inl⟩
      simp only [sumU, this, h2]
      omega
theorem sumU_done : ∀ (l : List MapEntry) (L : List En) (s : Array Nat), (∀ x ∈ l, s.contains x.born = true) → sumU l L s = 0
  | [], L, s, _ => by cases L <;> rfl
  | x :: l, [], s, _ => rfl
  | x :: l, e :: L, s, h => by
    simp only [sumU, h x (List.mem_cons_self ..), if_true, Int.zero_add]
    exact sumU_done l L s (fun y hy => h y (List.mem_cons_of_mem _ hy))
def sumC (L : List En) : Int := (L.map fun e => e.n).foldr (· + ·) 0
theorem sumU_start : ∀ (l : List MapEntry) (L : List En), l.length = L.length → sumU l L #[] = sumC L
  | [], [], _ => rfl
  | [], _ :: _, h => by simp at h
  | _ :: _, [], h => by simp at h
  | x :: l, e :: L, h => by
    simp only [List.length_cons, Nat.add_right_cancel_iff] at h
    simp [sumU, sumC, sumU_start l L h]
theorem sumU_bound : ∀ (l : List MapEntry) (L : List En) (s : Array Nat), (∀ e ∈ L, 0 ≤ e.n ∧ e.n ≤ 4) → 0 ≤ sumU l L s ∧ sumU l L s ≤ sumC L
  | [], [], s, _ => ⟨Int.le_refl _, Int.le_refl _⟩
  | [], e :: L, s, h => by
    have := sumU_bound [] L s (fun e he => h e (List.mem_cons_of_mem _ he))
    have h0 : sumU [] L s = 0 := by cases L <;> rfl
    have := h e (List.mem_cons_self ..)
    simp [sumU, sumC] at *; omega
  | _ :: _, [], s, _ => ⟨Int.le_refl _, Int.le_refl _⟩
  | x :: l, e :: L, s, h => by
    have := sumU_bound l L s (fun e he => h e (List.mem_cons_of_mem _ he))
    have := h e (List.mem_cons_self ..)
    simp only [sumU, sumC, List.map_cons, List.foldr_cons] at *
    split <;> omega
theorem sumC_bound : ∀ (L : List En), (∀ e ∈ L, 0 ≤ e.n ∧ e.n ≤ 4) → 0 ≤ sumC L ∧ sumC L ≤ 4 * (L.length : Int)
  | [], _ => ⟨Int.le_refl _, Int.le_refl _⟩
  | e :: L, h => by
    have := sumC_bound L (fun e he => h e (List.mem_cons_of_mem _ he))
    have := h e (List.mem_cons_self ..)
    simp only [sumC, List.map_cons, List.foldr_cons, List.length_cons] at *
    omega
def leftAt (es : Array MapEntry) (W : World) (r : Nat) : Nat := match W.heap[r]? with | some (.mapIter _ _ seen _) => (leftOf es seen).size | _ => 0
theorem leftAt_of {es : Array MapEntry} {W : World} {r : Nat} {a : Option Nat} {s : Nat} {seen : Array Nat} {c : Nat} (h : W.heap[r]? = some (.mapIter a s seen c)) : leftAt es W r = (leftOf es seen).size := by unfold leftAt; rw [h]
theorem run_map_len' {W : World} {r clk : Nat} {es : Array MapEntry} (h : W.heap[r]? = some (.map es clk)) {ty : TypeId} : (Builtin.len_ #[100] ty #[.map (some r)]).run Tryd.prog W = .ok (.int .i64 es.size) W := by
  have hu : Tryd.prog.underlying 100 = some (.map 3 124) := underM
  unfold Builtin.len_
  simp [run_underlying hu, Go.MapKept.run_getObj_map h, Result.andThen, goInt]
theorem meth_inc (n : Nat) (v : Value) (w : World) : (Go.method (n + 1) 125 v "stagepost/arp.waiting").run Tryd.prog w = .ok (147, v) w := by kernel_rfl
theorem meth_res (n : Nat) (v : Value) (w : World) : (Go.method (n + 1) 126 v "stagepost/arp.waiting").run Tryd.prog w = .ok (148, v) w := by kernel_rfl
theorem waiting_inc (eb : Nat) (Hb : Option Addr) (n hc : Nat) (a b c : Int) (w : World) (h : w.heap[eb]? = some (.cells #[.slice Hb n hc, .int .i64 a, .int .i64 b, .int .i64 c] 135)) :
    Calls Tryd.prog 147 #[.pointer (some ⟨eb, 0, none⟩)] w fun e w' => e = .returned (.int .i64 (n : Int)) ∧ w = w' := by
  obtain ⟨q0, -⟩ := (cells4 h).1
  clear h
  go_enter Tryd.func147, Tryd.ntmps147
  go_wp2_with fail
  go_ret
  exact ⟨rfl, rfl⟩
theorem waiting_res (v : Value) (w : World) : Calls Tryd.prog 148 #[v] w fun e w' => e = .returned (.int .i64 0) ∧ w = w' := by
  go_enter Tryd.func148, Tryd.ntmps148
  go_wp2_with fail
  go_ret
  exact ⟨rfl, rfl⟩
theorem sizes_nil (w : World) : Calls Tryd.prog 25 #[.pointer none] w fun e w' => e = .returned (.tuple #[.int .i64 0, .int .i64 0]) ∧ w = w' := by
  go_enter Tryd.func25, Tryd.ntmps25
  go_wp2_with fail
  go_ret2
  exact ⟨rfl, rfl⟩
set_option maxHeartbeats 4000000 in
theorem sizes_some (T m : Nat) (es : Array MapEntry) (clk : Nat) (c : Tc) (L : List En) (w : World) (h : Tab w T (some m) es clk c L) (hl9 : L.length ≤ 1000) :
    Calls Tryd.prog 25 #[.pointer (some ⟨T, 0, none⟩)] w fun x w' => x = .returned (.tuple #[.int .i64 (L.length : Int), .int .i64 (sumC L)]) ∧ Below w.heap.size w w' := by
  obtain ⟨hmap, hrT⟩ : w.heap[m]? = some (.map es clk) ∧ m ≠ T := by
    rcases h.map with ⟨q, -⟩ | ⟨r', q, q2, q3⟩
    · cases q
    · cases q; exact ⟨q2, q3⟩
  obtain ⟨-, -, q0, -⟩ := cellsT h
  have hr := run_range_map (P := Tryd.prog) w _ _ _ m es clk underM hmap
  unfold tyM at hr
  have HT := Lib.hid h; have HMP := Lib.hid hmap
  have HC : Hid (∀ e ∈ L, 0 ≤ e.n ∧ e.n ≤ 4) := Lib.hid (fun e he => En.n_bd (h.ok e he))
  have HEN := Lib.hid (h.ents (by simp)); have HST := Lib.hid (h.stamp (by simp))
  clear h hmap
  have hsb := sumC_bound L HC.out
  have HZ : Hid ((w.alloc (.mapIter (some m) clk #[] clk)).heap[w.heap.size]? = some (.mapIter (some m) clk #[] clk)) := Lib.hid (alloc_new _ _)
  have HB : Hid (Below w.heap.size w (w.alloc (.mapIter (some m) clk #[] clk))) := Lib.hid (below_alloc (Below.refl _ _))
  have hmlt := HT.out.lt (.inr (.inl rfl) : TOwn T (some m) L m)
  have hTlt := HT.out.lt (.inl rfl : TOwn T (some m) L T)
  go_enter Tryd.func25, Tryd.ntmps25
  go_wp2_with fail
  go_loopw [4] (fun b wr => ∃ (k : Int) (seen : Array Nat) (c0 : Nat), b = .int .i64 k ∧ 0 ≤ k ∧ k + sumU es.toList L seen = sumC L ∧ wr.heap[w.heap.size]? = some (.mapIter (some m) clk seen c0) ∧ clk ≤ c0 ∧ Below w.heap.size w wr) (fun _ wr => leftAt es wr w.heap.size)
  case atStart => exact ⟨0, #[], clk, rfl, Int.le_refl _, by rw [sumU_start es.toList L (by have := congrArg List.length HEN.out.1; simpa using this)]; omega, HZ.out, Nat.le_refl _, HB.out⟩
  case round =>
    clear hr q0
    obtain ⟨k, seen, c0, rfl, hk0, hsum, hit, hcc, hb⟩ := hrel
    have HIT := Lib.hid hit; have HBW := Lib.hid hb; have HSUM := Lib.hid hsum; clear hit hb hsum
    have HTW := Lib.hid (HT.out.below HBW.out)
    have HMW := Lib.hid ((HBW.out.block m hmlt).trans HMP.out)
    have hel : (es.size : Int) = (L.length : Int) := by have := congrArg List.length HEN.out.1; simp at this; omega
    rcases run_next_at (P := Tryd.prog) wr 0 w.heap.size m clk c0 seen es clk HIT.out HMW.out HST.out.1 hcc with ⟨h0, hnx⟩ | ⟨x, hx, w1, hw1, hnx⟩
    · have hs0 : sumU es.toList L seen = 0 := sumU_done _ _ _ (fun x hx => by
        cases hc : seen.contains x.born with
        | true => rfl
        | false =>
          exfalso
          have : x ∈ leftOf es seen := by unfold leftOf; rw [Array.mem_filter]; exact ⟨by simpa using hx, by rw [hc]; rfl⟩
          have := Array.size_pos_of_mem this
          omega)
      obtain ⟨-, -, q0, -⟩ := cellsT HTW.out
      have hm := HMW.out
      have hK : k = sumC L := by have := HSUM.out; omega
      have HK := Lib.hid hK; have HEL := Lib.hid hel
      have hlen := run_map_len' hm (ty := 3)
      rw [show ((es.size : Int)) = (L.length : Int) from hel] at hlen
      clear hs0 h0 hK hel hm
      go_wp2_with fail
      go_ret2
      exact ⟨by rw [HK.out]; rfl, HBW.out⟩
    · obtain ⟨hxm, hxs⟩ := mem_left hx
      obtain ⟨e, he, hve, hsu⟩ := sumU_step es.toList L seen x HEN.out.2 HST.out.2 hxm hxs
      have hb1 : Below w.heap.size w w1 ∧ w1.heap = wr.heap := by
        rcases hw1 with rfl | rfl
        · exact ⟨HBW.out, rfl⟩
        · exact ⟨HBW.out.drew, rfl⟩
      obtain ⟨W2, hW2⟩ : ∃ W2 : World, W2 = Go.ChangeMaps.setBlock w1 w.heap.size (.mapIter (some m) clk (seen.push x.born) clk) := ⟨_, rfl⟩
      rw [← hW2] at hnx
      have hI2 : W2.heap[w.heap.size]? = some (.mapIter (some m) clk (seen.push x.born) clk) := by rw [hW2]; exact block_setObj_same (W := w1) (by rw [hb1.2]; exact HIT.out)
      have hB2 : Below w.heap.size w W2 := by
        rw [hW2]
        exact below_setObj hb1.1 (Nat.le_refl _) _
      have hT2 := HT.out.below hB2
      have hM2 : W2.heap[m]? = some (.map es clk) := (hB2.block m hmlt).trans HMP.out
      have hent := run_entry_at (P := Tryd.prog) W2 w.heap.size m clk seen es clk x hI2 hM2 hxm HST.out.2
      rw [hve] at hnx hent
      have hok := hT2.ok e he
      have HB2 := Lib.hid hB2; have HI2 := Lib.hid hI2; have HSU := Lib.hid hsu
      have HSH := Lib.hid (left_shrinks es seen x hx)
      have hcnt := HC.out e he
      have hrest := sumU_bound es.toList L (seen.push x.born) HC.out
      have hkb : k + e.n ≤ 4 * (L.length : Int) := by have := HSUM.out; omega
      clear hW2 hI2 hB2 hT2 hsu hve hb1 hw1 hx hxm hxs hM2 he
      obtain ⟨k9, v, eb, Hb, hc⟩ := e
      cases v with
      | inc held sent first last =>
        unfold En.val Ev.ty at hnx hent
        have HW9 := Lib.hid (fun W h => waiting_inc eb Hb held.length hc sent first last W h)
        have HBK := Lib.hid hok.1
        clear hok
        unfold En.n Ev.n at hcnt hkb HSU
        dsimp only at hcnt hkb HSU HBK
        have hme := meth_inc
        go_wp2_with (go_at_call 147; (with_reducible refine (HW9.out _ HBK.out).mono ?_); rintro e w' ⟨rfl, rfl⟩)
        go_roundw
        case rel => exact ⟨k + held.length, _, clk, by simp, by omega, by have := HSUM.out; have := HSU.out; omega, HI2.out, Nat.le_refl _, HB2.out⟩
        case measure => rw [leftAt_of HI2.out, leftAt_of HIT.out]; exact HSH.out
      | res mac since used =>
        unfold En.val Ev.ty at hnx hent
        have HW9 := Lib.hid (fun W => waiting_res (.pointer (some ⟨eb, 0, none⟩)) W)
        clear hok
        unfold En.n Ev.n at hcnt hkb HSU
        dsimp only at hcnt hkb HSU
        have hme := meth_res
        go_wp2_with (go_at_call 148; (with_reducible refine (HW9.out _).mono ?_); rintro e w' ⟨rfl, rfl⟩)
        go_roundw
        case rel => exact ⟨k, _, clk, by simp, by omega, by have := HSUM.out; have := HSU.out; omega, HI2.out, Nat.le_refl _, HB2.out⟩
        case measure => rw [leftAt_of HI2.out, leftAt_of HIT.out]; exact HSH.out
set_option maxHeartbeats 4000000 in
theorem sizes_none (T : Nat) (es : Array MapEntry) (clk : Nat) (c : Tc) (L : List En) (w : World) (h : Tab w T none es clk c L) :
    Calls Tryd.prog 25 #[.pointer (some ⟨T, 0, none⟩)] w fun x w' => x = .returned (.tuple #[.int .i64 0, .int .i64 0]) ∧ Below w.heap.size w w' := by
  obtain ⟨-, -, q0, -⟩ := cellsT h
  have hr := run_range_nilMap (P := Tryd.prog) w _ _ _ underM
  unfold tyM at hr
  have hn := run_next_nilMap (P := Tryd.prog) w 0 0 0 #[]
  have q1 := cell_alloc' (.mapIter none 0 #[] 0) q0
  have hlt := blk_lt h.tab
  clear h
  go_enter Tryd.func25, Tryd.ntmps25
  go_wp2_with fail
  go_loopw [4] (fun b wr => b = .int .i64 0 ∧ wr = w.alloc (.mapIter none 0 #[] 0)) (fun _ _ => 0)
  case atStart => exact ⟨rfl, rfl⟩
  case round =>
    obtain ⟨rfl, rfl⟩ := hrel
    go_wp2_with fail
    go_ret2
    exact ⟨rfl, below_alloc (Below.refl _ _)⟩
/-- what Sizes answers -/
theorem sizes_any (T : Nat) (m : Option Nat) (es : Array MapEntry) (clk : Nat) (c : Tc) (L : List En) (w : World) (h : Tab w T m es clk c L) (hl9 : L.length ≤ 1000) :
    Calls Tryd.prog 25 #[.pointer (some ⟨T, 0, none⟩)] w fun x w' => x = .returned (.tuple #[.int .i64 (L.length : Int), .int .i64 (sumC L)]) ∧ Below w.heap.size w w' := by
  cases m with
  | some r => exact sizes_some T r es clk c L w h hl9
  | none =>
    have hL : L = [] := by
      rcases h.map with ⟨-, q⟩ | ⟨r', q, -⟩
      · exact q
      · cases q
    subst hL
    exact sizes_none T es clk c [] w h
end Go.Proofs.YtmgjcjacoegocaaDoor.Ar
