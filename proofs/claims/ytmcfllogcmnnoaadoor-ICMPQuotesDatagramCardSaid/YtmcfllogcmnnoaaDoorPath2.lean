/-
  Contracts of the tests that Lower hands to slices.DeleteFunc, and of slices.DeleteFunc at entries.
-/
import Derived.Test.YtmcfllogcmnnoaaDoorPath1
namespace Go.Proofs.YtmcfllogcmnnoaaDoor.Ic
set_option maxRecDepth 100000
open Go.RowKit Go.Proofs.YtmcfllogcmnnoaaDoor.Wire

theorem fresh_any (e : En) (now : Int) (w : World) (h0 : 0 ≤ e.at_ ∧ e.at_ ≤ 1000000000) :
    Calls Tryd.prog 58 #[enV e, .int .i64 now] w fun x w' => x = .returned (.bool (freshB now e)) ∧ Below w.heap.size w w' := by
  unfold enV
  have hw : IntKind.i64.wrap (e.at_ + 600) = e.at_ + 600 := IntWalk.i64_in _ (by omega)
  have HB := (Below.refl w.heap.size w).alloc (Nat.le_refl _) (.cells #[.int .i64 e.to, .int .i64 e.size, .int .i64 e.at_] 100)
  unfold freshB
  go_enter Tryd.func58, Tryd.ntmps58
  go_wp2_with fail
  go_ret
  exact ⟨rfl, HB⟩
theorem old_tests (b g : Nat) (now : Int) (l : List En) (w : World) (hb : w.heap[b]? = some (.cells #[.int .i64 now] 3 (0, 0))) (hne : b ≠ g) (hok : ∀ e ∈ l, 0 ≤ e.at_ ∧ e.at_ ≤ 1000000000) :
    Tests 57 #[.pointer (some ⟨b, 0, none⟩)] (fun e => !freshB now e) g l w := by
  intro e he W hW
  have hc := (cell_of_box (bblock_only hW hb hne)).1
  have HE := Lib.hid (hok e he)
  have HF := Lib.hid fun W => fresh_any e now W HE.out
  clear hok he hb hW
  show Calls _ _ #[enV e, .pointer (some ⟨b, 0, none⟩)] _ _
  unfold enV at HF ⊢
  have HB := (Below.refl W.heap.size W).alloc (Nat.le_refl _) (.cells #[.int .i64 e.to, .int .i64 e.size, .int .i64 e.at_] 100)
  have hc' := cell_alloc' (.cells #[.int .i64 e.to, .int .i64 e.size, .int .i64 e.at_] 100) hc
  go_enter Tryd.func57, Tryd.ntmps57
  go_wp2_with fail
  refine (HF.out _).mono ?_
  rintro x w' ⟨rfl, hb⟩
  go_wp2_with fail
  go_ret
  exact ⟨rfl, below_call HB hb⟩
theorem eqEn (e o : En) : ∀ w : World, (Op.equalIn 10000 100 (.agg #[.int .i64 e.to, .int .i64 e.size, .int .i64 e.at_]) (.agg #[.int .i64 o.to, .int .i64 o.size, .int .i64 o.at_])).run Tryd.prog w = .ok (decide (e = o)) w := by
  intro w
  have he : decide (e = o) = decide (e.to = o.to ∧ e.size = o.size ∧ e.at_ = o.at_) := by
    apply decide_eq_decide.2
    constructor
    · rintro rfl; exact ⟨rfl, rfl, rfl⟩
    · rintro ⟨h1, h2, h3⟩; cases e; cases o; simp_all
  rw [he]
  go_simp
  by_cases h0 : e.to = o.to
  case neg => simp [h0]
  by_cases h1 : e.size = o.size
  case neg => simp [h0, h1]
  by_cases h2 : e.at_ = o.at_ <;> simp [h0, h1, h2]
theorem same_tests (b g : Nat) (o : En) (l : List En) (w : World) (hb : w.heap[b]? = some (.cells #[.int .i64 o.to, .int .i64 o.size, .int .i64 o.at_] 100 (0, 0))) (hne : b ≠ g) :
    Tests 60 #[.pointer (some ⟨b, 0, none⟩)] (fun e => decide (e = o)) g l w := by
  intro e he W hW
  obtain ⟨⟨c0, c1, c2⟩, -⟩ := cells3 (bblock_only hW hb hne)
  have hq := eqEn e o
  clear he hb hW
  show Calls _ _ #[enV e, .pointer (some ⟨b, 0, none⟩)] _ _
  unfold enV
  generalize hd : decide (e = o) = d at hq
  have HD := Lib.hid hd; clear hd
  have HB := (Below.refl W.heap.size W).alloc (Nat.le_refl _) (.cells #[.int .i64 e.to, .int .i64 e.size, .int .i64 e.at_] 100)
  have c0' := cell_alloc' (.cells #[.int .i64 e.to, .int .i64 e.size, .int .i64 e.at_] 100) c0
  have c1' := cell_alloc' (.cells #[.int .i64 e.to, .int .i64 e.size, .int .i64 e.at_] 100) c1
  have c2' := cell_alloc' (.cells #[.int .i64 e.to, .int .i64 e.size, .int .i64 e.at_] 100) c2
  go_enter Tryd.func60, Tryd.ntmps60
  go_wp2_with fail
  go_ret
  refine ⟨?_, HB⟩
  show Ending.returned _ = .returned (.bool (decide (e = o)))
  rw [HD.out]; rfl
/-- what DeleteFunc leaves -/
def keepL (p : En → Bool) (l : List En) : List En := l.filter fun e => !p e
/-- the second loop: m entries looked at, k of them kept -/
structure Half (p : En → Bool) (l : List En) (m k : Nat) : Prop where
  len : (keepL p (l.take m)).length = k
  lt : k < m
theorem keepL_succ {p : En → Bool} {l : List En} {m : Nat} {x : En} (hx : l[m]? = some x) : keepL p (l.take (m + 1)) = keepL p (l.take m) ++ (if p x = true then [] else [x]) := by
  unfold keepL
  rw [List.take_add_one, hx, List.filter_append]
  congr 1
  cases h : p x <;> simp [h]
theorem Half.start {p : En → Bool} {l : List En} {k : Nat} {x : En} (hx : l[k]? = some x) (hp : p x = true) (h : ∀ (j : Nat) (e : En), j < k → l[j]? = some e → p e = false) : Half p l (k + 1) k ∧ ∀ (i : Nat) (e : En), (keepL p (l.take (k + 1)))[i]? = some e → l[i]? = some e := by
  have e1 : keepL p (l.take k) = l.take k := by
    unfold keepL
    rw [List.filter_eq_self]
    intro e he
    obtain ⟨j, hj⟩ := List.getElem?_of_mem he
    have hjk : j < k := by
      have := (List.getElem?_eq_some_iff.1 hj).1
      rw [List.length_take] at this; omega
    rw [List.getElem?_take_of_lt hjk] at hj
    simp [h j e hjk hj]
  have hk : k < l.length := (List.getElem?_eq_some_iff.1 hx).1
  refine ⟨⟨?_, by omega⟩, fun i e he => ?_⟩
  · rw [keepL_succ hx, e1, if_pos hp, List.append_nil, List.length_take]; omega
  · rw [keepL_succ hx, e1, if_pos hp, List.append_nil] at he
    have hik : i < k := by
      have := (List.getElem?_eq_some_iff.1 he).1
      rw [List.length_take] at this; omega
    rwa [List.getElem?_take_of_lt hik] at he
/-- what the row holds in the second loop -/
def HalfP (p : En → Bool) (l : List En) (m : Nat) (i : Nat) (e : En) : Prop := (keepL p (l.take m))[i]? = some e ∨ (m ≤ i ∧ l[i]? = some e)
theorem keepL_mem {p : En → Bool} {l : List En} {e : En} (h : e ∈ keepL p l) : e ∈ l := (List.mem_filter.1 h).1
end Go.Proofs.YtmcfllogcmnnoaaDoor.Ic
