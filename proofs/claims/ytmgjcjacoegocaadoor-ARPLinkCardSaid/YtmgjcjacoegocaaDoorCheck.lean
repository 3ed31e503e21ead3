/-
  The contract of wire.Checksum: at every string of at most a million bytes it returns the number that 'csum' gives; nothing that was there is changed.
-/
import Derived.Test.YtmgjcjacoegocaaDoorWire
import Derived.Test.YtmgjcjacoegocaaDoorBase0
import Derived.RangeFuncFrom
import Derived.RangeFuncNested
import Derived.RangeFuncBound
import Derived.RangeFuncCalls
import Derived.RangeFuncLeaves
import Derived.Shelf.Abstract
import Derived.Shelf.RegionOpen
import Derived.OwnWalkIn
import Derived.TacticsInMore
import Derived.LoopNIn
import Derived.LoopIn
namespace Go.Proofs.YtmgjcjacoegocaaDoor.Wire
set_option maxRecDepth 100000
open Go.RowKit Go.Shelf
attribute [local go_sem] Oper.semAt_some

/-- the k-th word of s -/
def wordAt (s : ByteArray) (k : Nat) : Int := (s.data.toList.getD (2 * k) 0).toNat * 256 + (s.data.toList.getD (2 * k + 1) 0).toNat
def upto (s : ByteArray) (k : Nat) : List Int := (List.range k).map (wordAt s)
theorem upto_succ (s : ByteArray) (k : Nat) : upto s (k + 1) = upto s k ++ [wordAt s k] := by simp [upto, List.range_succ]
theorem upto_length (s : ByteArray) (k : Nat) : (upto s k).length = k := by simp [upto]
theorem word_two (s : ByteArray) (k : Nat) (h : 2 * k < s.size) (h' : 2 * k + 1 < s.size) : wordAt s k = bits .or .i64 ((s[2 * k].toNat : Int) * 256) (s[2 * k + 1].toNat : Int) := by
  have h1 := u8_bd s[2 * k]
  have h2 := u8_bd s[2 * k + 1]
  rw [bits_or_add 8 _ _ (s[2 * k].toNat : Int) (by omega) (by omega) (by omega) (by omega) (by omega) (by omega)]
  unfold wordAt
  rw [getD_lt s _ h, getD_lt s _ h']
theorem word_one (s : ByteArray) (k : Nat) (h : 2 * k < s.size) (h' : ¬ 2 * k + 1 < s.size) : wordAt s k = (s[2 * k].toNat : Int) * 256 := by
  unfold wordAt
  rw [getD_lt s _ h, getD_ge s _ (by omega)]
  simp

set_option maxRecDepth 100000 in
set_option maxHeartbeats 2000000 in
theorem words1_in (F : Fence) (n : Nat) (h6 : F.fn 94) (hro : F.round = none) (hn : 1 ≤ n) (l Bn : Nat) (s : ByteArray) (hs : s.size ≤ 1000000) (J Jx : List Int → World → Prop)
    (hY : ∀ pre x W, J pre W → pre.length < (s.size + 1) / 2 → YieldAt F (n - 1) Tryd.prog l #[.int .i64 x] W fun e W' =>
      (e = .returned (.bool true) ∧ J (pre ++ [x]) W' ∧ KeepsCell ⟨Bn, 0, none⟩ (.string s) W W') ∨ (e = .returned (.bool false) ∧ Jx (pre ++ [x]) W'))
    (W : World) (hBn : W.cell? ⟨Bn, 0, none⟩ = some (.string s)) (h0 : J [] W) :
    CallsIn F n Tryd.prog 94 #[.func (.yield l) #[] #[], .pointer (some ⟨Bn, 0, none⟩)] W fun e W' => (∃ v, e = .returned v) ∧
      ((∃ ys, ys = upto s ((s.size + 1) / 2) ∧ J ys W') ∨ (∃ pre : List Int, True ∧ Jx pre W')) := by
  refine callsIn_of_wp Tryd.func94 rfl h6 ?_ hro
  simp only [Tryd.ntmps94, List.size_toArray, List.length_cons, List.length_nil, Nat.reduceAdd, Nat.reduceSub, Array.replicate_succ, Array.replicate_zero, List.push_toArray, List.append_toArray, List.nil_append, List.cons_append]
  gi_wp2
  gi_loopw [3, 4] (fun i u wr => ∃ k : Nat, i = .int .i64 (2 * (k : Int)) ∧ 2 * k ≤ s.size + 1 ∧ wr.cell? ⟨Bn, 0, none⟩ = some (.string s) ∧ J (upto s k) wr)
    (fun i u wr => s.size + 1 - (intOf i).toNat)
  case atStart =>
    exact ⟨0, rfl, by omega, hBn, h0⟩
  case round =>
    obtain ⟨k, rfl, hk, hc, hJs⟩ := hrel
    by_cases hlt2 : 2 * k < s.size
    · have hb0 := u8_bd s[2 * k]
      by_cases hlt3 : 2 * k + 1 < s.size
      · have hb1 := u8_bd s[2 * k + 1]
        have hw := word_two s k hlt2 hlt3
        obtain ⟨fn, tmps, assign, body, hy, hR⟩ := hY (upto s k) (bits .or .i64 ((s[2 * k].toNat : Int) * 256) (s[2 * k + 1].toNat : Int)) wr hJs (by rw [upto_length]; omega)
        have Hw := Lib.hid hw; clear hw
        gi_wp2
        refine hR.mono ?_
        rintro e W3 (⟨rfl, hJ3, hk3⟩ | ⟨rfl, hJx3⟩)
        · have hc3 : W3.cell? ⟨Bn, 0, none⟩ = some (.string s) := hk3 hc
          gi_wp2
          go_roundw
          case rel => exact ⟨k + 1, by simp; omega, by omega, hc3, by rw [upto_succ, Hw.out]; exact hJ3⟩
          case measure => simp [intOf]; omega
        · gi_wp2
          refine bodyPost_ret (results_none rfl _ _ _) rfl ?_
          exact ⟨⟨_, rfl⟩, .inr ⟨_, trivial, hJx3⟩⟩
      · have hw := word_one s k hlt2 hlt3
        obtain ⟨fn, tmps, assign, body, hy, hR⟩ := hY (upto s k) ((s[2 * k].toNat : Int) * 256) wr hJs (by rw [upto_length]; omega)
        have Hw := Lib.hid hw; clear hw
        gi_wp2
        refine hR.mono ?_
        rintro e W3 (⟨rfl, hJ3, hk3⟩ | ⟨rfl, hJx3⟩)
        · have hc3 : W3.cell? ⟨Bn, 0, none⟩ = some (.string s) := hk3 hc
          gi_wp2
          go_roundw
          case rel => exact ⟨k + 1, by simp; omega, by omega, hc3, by rw [upto_succ, Hw.out]; exact hJ3⟩
          case measure => simp [intOf]; omega
        · gi_wp2
          refine bodyPost_ret (results_none rfl _ _ _) rfl ?_
          exact ⟨⟨_, rfl⟩, .inr ⟨_, trivial, hJx3⟩⟩
    · gi_wp2
      go_end0
      exact ⟨⟨_, rfl⟩, .inl ⟨_, rfl, by rw [show (s.size + 1) / 2 = k from by omega]; exact hJs⟩⟩

theorem words_stops (F : Fence) (n : Nat) (h6 : F.fn 94) (hro : F.round = none) (hn : 1 ≤ n) (Bn : Nat) (s : ByteArray) (hs : s.size ≤ 1000000) (w : World) (hBn : Bn < w.heap.size)
    (hc : w.cell? ⟨Bn, 0, none⟩ = some (.string s)) :
    SeqStopsK F n Tryd.prog 94 #[.pointer (some ⟨Bn, 0, none⟩)] (fun x : Int => #[Value.int .i64 x]) (KeepsCell ⟨Bn, 0, none⟩ (.string s)) (fun ys => ys = upto s ((s.size + 1) / 2)) (fun _ => True) ((s.size + 1) / 2) w := fun l J Jx W hW _ _ hY h0 =>
  words1_in F n h6 hro hn l Bn s hs J Jx hY W ((hW.cell (p := ⟨Bn, 0, none⟩) hBn).trans hc) h0

theorem words_in (F : Fence) (n : Nat) (h : F.fn 69) (hro : F.round = none) (s : ByteArray) (w : World) :
    CallsIn F n Tryd.prog 69 #[.string s] w fun e w' => e = .returned (.func (.func 94) #[] #[.pointer (some ⟨w.heap.size, 0, none⟩)]) ∧ w' = w.alloc (.cells #[.string s] 9) := by
  refine callsIn_of_wp Tryd.func69 rfl h ?_ hro
  simp only [Tryd.ntmps69, List.size_toArray, List.length_cons, List.length_nil, Nat.reduceAdd, Nat.reduceSub, Array.replicate_succ, Array.replicate_zero, List.push_toArray, List.append_toArray, List.nil_append, List.cons_append]
  gi_wp2
  go_ret
  exact ⟨rfl, rfl⟩

/-- the sum of numbers -/
def total (l : List Int) : Int := l.foldl (· + ·) 0
theorem total_snoc (l : List Int) (x : Int) : total (l ++ [x]) = total l + x := by simp [total]
/-- the sum as Go's int has it -/
def totalW (l : List Int) : Int := l.foldl (fun a x => wrap64 (a + x)) 0
theorem totalW_snoc (l : List Int) (x : Int) : totalW (l ++ [x]) = wrap64 (totalW l + x) := by simp [totalW]
/-- 'for n > 65535 { n = n%65536 + n/65536 }' comes to this -/
def fold (n : Int) : Int := if n ≤ 0 then n else (n - 1) % 65535 + 1
theorem fold_small (n : Int) (h : n ≤ 65535) : fold n = n := by unfold fold; split <;> omega
theorem fold_step (n : Int) (h : 65535 < n) : fold (n % 65536 + n / 65536) = fold n := by unfold fold; rw [if_neg (by omega), if_neg (by omega)]; omega
/-- the sum of the words of s -/
def wsum (s : ByteArray) : Int := total (upto s ((s.size + 1) / 2))
def csum (s : ByteArray) : Int := 65535 - fold (wsum s)
theorem word_bd (s : ByteArray) (k : Nat) : 0 ≤ wordAt s k ∧ wordAt s k ≤ 65535 := by
  have h1 := u8_bd (s.data.toList.getD (2 * k) 0)
  have h2 := u8_bd (s.data.toList.getD (2 * k + 1) 0)
  unfold wordAt; omega
theorem total_bd (s : ByteArray) (k : Nat) : 0 ≤ total (upto s k) ∧ total (upto s k) ≤ 65535 * k := by
  induction k with
  | zero => simp [upto, total]
  | succ k ih =>
    rw [upto_succ, total_snoc]
    have := word_bd s k
    omega

theorem totalW_eq (s : ByteArray) (k : Nat) (hk : k ≤ 1000000) : totalW (upto s k) = total (upto s k) := by
  induction k with
  | zero => rfl
  | succ k ih =>
    rw [upto_succ, total_snoc, totalW_snoc, ih (by omega)]
    have := word_bd s k
    have := total_bd s k
    unfold wrap64; omega
def intAt (W : World) (a : Addr) : Nat := match W.cell? a with
  | some (.int _ m) => m.toNat
  | _ => 0
theorem intAt_eq {W : World} {a : Addr} {k : IntKind} {m : Int} (h : W.cell? a = some (.int k m)) : intAt W a = m.toNat := by unfold intAt; rw [h]

set_option maxRecDepth 100000 in
set_option maxHeartbeats 2000000 in
theorem checksum_in (F : Fence) (n : Nat) (h3 : F.fn 30) (h5 : F.fn 69) (h6 : F.fn 94) (hro : F.round = none) (hn : 3 ≤ n) (s : ByteArray) (hs : s.size ≤ 1000000) (w : World) :
    CallsIn F n Tryd.prog 30 #[.string s] w fun e W' => e = .returned (.int .i64 (csum s)) ∧ Below w.heap.size w W' := by
  have h1 : 1 ≤ n := by omega
  refine callsIn_of_wp_marks Tryd.func30 rfl h3 ?_ hro
  simp only [Tryd.ntmps30, List.size_toArray, List.length_cons, List.length_nil, Nat.reduceAdd, Nat.reduceSub, Array.replicate_succ, Array.replicate_zero, List.push_toArray, List.append_toArray, List.nil_append, List.cons_append]
  gi_wp2_with (gi_at_call 69; refine (words_in F (n - 1) h5 hro _ _).mono ?_; rintro e w' ⟨rfl, rfl⟩)
  have hcs := cell_new w (.int .i64 0) 3
  have hb := cell_new (w.alloc (.cells #[.int .i64 0] 3)) (.string s) 9
  rw [World.size_alloc] at hb
  have hB0 : Below w.heap.size w ((w.alloc (.cells #[.int .i64 0] 3)).alloc (.cells #[.string s] 9)) := ((Below.refl _ w).alloc (Nat.le_refl _) _).alloc (by simp) _
  refine wpIn_rangeFunc_ownF hro h1 (gf := 94) (lb := #[.pointer (some ⟨w.heap.size + 1, 0, none⟩)]) rfl h6 (enters_of Tryd.func94 (by kernel_rfl) rfl)
    (words_stops F (n - 1) h6 hro (by omega) (w.heap.size + 1) s hs _ (by simp) hb.1) keepsCell_t (keepsCell_b (w := (w.alloc (.cells #[.int .i64 0] 3)).alloc (.cells #[.string s] 9))) (Below.refl _ _) (fun _ => rfl)
    (fun pre W => (W.cell? ⟨w.heap.size, 0, none⟩ = some (.int .i64 (totalW pre)) ∧ W.frozen? ⟨w.heap.size, 0, none⟩ = false) ∧ Below w.heap.size w W)
    (fun _ _ _ => False)
    (OwnFrom.and (Own.from (fun s A B row hs hg hr => ⟨cell_kept hs.1 hg hr, (frozen_kept hs.1 hg hr).trans hs.2⟩) _) (ownFrom_below (Nat.le_refl _) (by simp; omega)))
    (fun _ _ _ _ _ hs _ _ => hs)
    ⟨⟨cell_alloc' _ hcs.1, frozen_alloc' _ hcs.1 hcs.2⟩, hB0⟩
    (fun x => { tmps := #[.string s, undef, .int .i64 0, .pointer (some ⟨w.heap.size, 0, none⟩), .int .i64 x, .string s, .func (.func 94) #[] #[.pointer (some ⟨w.heap.size + 1, 0, none⟩)], .int .i64 x, undef, undef, undef, undef, undef, undef, undef, undef, undef, undef, undef, undef], defers := [] }) ?assign ?body ?done ?stop
  case assign =>
    intro l x W K hK
    gi_wp2
    exact hK
  case body =>
    rintro l pre x W ⟨⟨hc, hf⟩, hB⟩ _
    gi_wp2
    exact ⟨KeepsOthers.setCell _ _ _, fun x => (World.cell?_setCell_other _ _ _ _ (by simp)).trans x, ⟨by rw [totalW_snoc]; exact World.cell?_setCell_same' _ _ _ (by rw [hc]; rfl), by rw [World.frozen?_setCell]; exact hf⟩, hB.setCell (p := ⟨w.heap.size, 0, none⟩) (Nat.le_refl _) _⟩
  case done =>
    rintro D ys W hD rfl ⟨⟨hc, hf⟩, hB⟩ hK
    rw [totalW_eq s _ (by omega)] at hc
    have hbd := total_bd s ((s.size + 1) / 2)
    have hgoal : Hid (csum s = 65535 - fold (total (upto s ((s.size + 1) / 2)))) := Lib.hid rfl
    generalize total (upto s ((s.size + 1) / 2)) = T at *
    gi_wp2
    gi_loopw [11] (fun _ wr => ∃ m : Int, wr.cell? ⟨w.heap.size, 0, none⟩ = some (.int .i64 m) ∧ wr.frozen? ⟨w.heap.size, 0, none⟩ = false ∧ fold m = fold T ∧ 0 ≤ m ∧ m ≤ 65535 * 1000000 ∧ Below w.heap.size w wr ∧ wr.heap[D]? = some (.deferred (some [])))
      (fun _ wr => intAt wr ⟨w.heap.size, 0, none⟩)
    case atStart => exact ⟨T, hc, hf, rfl, by omega, by omega, hB, hK⟩
    case round =>
      obtain ⟨m, hc2, hf2, hm, hm0, hm1, hB2, hK2⟩ := hrel
      have Hm := Lib.hid hm
      clear hm
      by_cases hlt : 65535 < m
      · gi_wp2
        go_roundw
        case rel =>
          exact ⟨m % 65536 + m / 65536, World.cell?_setCell_same' _ _ _ (by rw [hc2]; rfl), by rw [World.frozen?_setCell]; exact hf2, by rw [fold_step m hlt]; exact Hm.out, by omega, by omega, hB2.setCell (p := ⟨w.heap.size, 0, none⟩) (Nat.le_refl _) _, ((KeepsOthers.setCell _ _ _).same D _ hK2 rfl)⟩
        case measure =>
          rw [intAt_eq hc2, intAt_eq (World.cell?_setCell_same' _ _ _ (by rw [hc2]; rfl))]
          omega
      · gi_wp2
        refine ⟨by simp, .inl ⟨_, _, rfl, run_takeDeferred hK2, ?_⟩⟩
        refine ⟨_, results_tmp rfl _ _ _, ?_, hB2.trans (belowK_b (w := w) (Nat.le_refl _) wr D _ _ (by simp at hD; omega) hK2 rfl rfl)⟩
        refine ret_int ?_
        rw [hgoal.out, ← Hm.out, fold_small m hlt]
  case stop =>
    rintro D c pre W _ _ h _
    exact h.elim

theorem checksum_any (s : ByteArray) (hs : s.size ≤ 1000000) (w : World) :
    Calls Tryd.prog 30 #[.string s] w fun e W' => e = .returned (.int .i64 (csum s)) ∧ Below w.heap.size w W' :=
  (callsIn_wide (n := 3)).1 (checksum_in Fence.wide 3 trivial trivial trivial rfl (by omega) s hs w)

end Go.Proofs.YtmgjcjacoegocaaDoor.Wire
