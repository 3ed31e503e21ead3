/-
  Contracts of Size and of slices.Delete at the first of the entries.
-/
import Derived.Test.YtmcfllogcmnnoaaDoorPath4
import Derived.Deep.RegionLaw
import Derived.Shelf.RegionOpenPlain
namespace Go.Proofs.YtmcfllogcmnnoaaDoor.Ic
set_option maxRecDepth 100000
open Go.RowKit Go.Proofs.YtmcfllogcmnnoaaDoor.Wire

theorem size_any (row : Option Nat) (B : Nat) (l : List En) (now to mtu : Int) (w : World) (h : IsP row B l w) (hk : Kept l) : Calls Tryd.prog 33 #[.pointer (some ⟨B, 0, none⟩), .int .i64 now, .int .i64 to, .int .i64 mtu] w fun e w' =>
    e = .returned (.int .i64 (sizeE l now to mtu)) ∧ Below w.heap.size w w' := by
  have HF := Lib.hid (pfind_any row B l to w h (by have := hk.len; omega))
  unfold sizeE
  cases hf : l.find? (toB to) with
  | none =>
    rw [hf] at HF
    clear h hk hf
    go_enter Tryd.func33, Tryd.ntmps33
    go_wp2_with fail
    refine HF.out.mono ?_
    rintro e w1 ⟨rfl, hb⟩
    unfold fndV
    go_wp2_with fail
    go_ret
    exact ⟨rfl, below_alloc hb⟩
  | some x =>
    rw [hf] at HF
    have hx := hk.ok x (List.mem_of_find?_eq_some hf)
    have HC := Lib.hid fun W => fresh_any x now W ⟨hx.1, hx.2.1⟩
    clear h hk hf hx
    unfold enV at HC
    dsimp only
    generalize freshB now x = fb at *
    go_enter Tryd.func33, Tryd.ntmps33
    go_wp2_with fail
    refine HF.out.mono ?_
    rintro e w1 ⟨rfl, hb⟩
    unfold fndV enV
    have HA := Lib.hid (alloc_new w1 (.cells #[.int .i64 x.to, .int .i64 x.size, .int .i64 x.at_] 100))
    go_wp2_with (go_at_call 58; refine (HC.out _).mono ?_; rintro e w2 ⟨rfl, hb2⟩; obtain ⟨⟨q0, q1, q2⟩, -⟩ := cells3 (bblock hb2 HA.out))
    all_goals
      go_ret
      exact ⟨by first | rfl | (simp; omega), below_call (below_alloc hb) hb2⟩
set_option maxHeartbeats 2000000 in
theorem drop_any (g c : Nat) (l : List En) (w : World) (hl : 1 ≤ l.length) (hc : l.length ≤ c) (hr : RowP w g c 100 (fun i e => l[i]? = some e)) :
    Calls Tryd.prog 61 #[.slice (some ⟨g, 0, none⟩) l.length c, .int .i64 0, .int .i64 1] w fun x w' =>
      x = .returned (.slice (some ⟨g, 0, none⟩) (l.drop 1).length c) ∧ RowP w' g c 100 (fun i e => (l.drop 1)[i]? = some e) ∧ w.grownBy w' (some g) := by
  obtain ⟨i0, hi0, hz1⟩ := Option.map_eq_some_iff.1 infoEn
  have HR := Lib.hid hr; clear hr
  obtain ⟨n, hn⟩ : ∃ n, n = l.length := ⟨_, rfl⟩
  rw [← hn] at hl hc ⊢
  have HN := Lib.hid hn; clear hn
  obtain ⟨news, hnews⟩ : ∃ news, news = enCells (l.drop 1) := ⟨_, rfl⟩
  have hlen : news.length = (n - 1) * 3 := by rw [hnews, enCells_length, List.length_drop, HN.out]
  obtain ⟨A, hA, hsrc⟩ : ∃ A : Addr, (if c = 1 then some (⟨g, 0, none⟩ : Addr) else some ⟨g, 1 * 3, none⟩) = some A ∧ Hid (∀ t u, news[t]? = some u → w.drew.cell? (A.add t) = some u) := by
    by_cases h : c = 1
    · refine ⟨⟨g, 0, none⟩, by simp [h], Lib.hid fun t u hu => ?_⟩
      have h0 : news.length = 0 := by rw [hlen]; omega
      rw [List.length_eq_zero_iff.1 h0] at hu
      simp at hu
    · refine ⟨⟨g, 1 * 3, none⟩, by simp [h], Lib.hid fun t u hu => ?_⟩
      have ht : t < (n - 1) * 3 := by
        have := (List.getElem?_eq_some_iff.1 hu).1
        rwa [hlen] at this
      rw [Addr.add_lit]
      have hx : (l.drop 1)[t / 3]? = some ((l.drop 1)[t / 3]'(by rw [List.length_drop, ← HN.out]; omega)) := List.getElem?_eq_getElem _
      generalize (l.drop 1)[t / 3]'(by rw [List.length_drop, ← HN.out]; omega) = x at hx
      obtain ⟨q0, q1, q2⟩ := enCells_get (l.drop 1) (t / 3) x hx
      rw [List.getElem?_drop] at hx
      obtain ⟨c0, c1, c2⟩ := HR.out.cells (1 + t / 3) x hx
      rw [hnews] at hu
      have ht3 : t % 3 = 0 ∨ t % 3 = 1 ∨ t % 3 = 2 := by omega
      rcases ht3 with e | e | e
      · rw [show t / 3 * 3 = t by omega] at q0
        rw [q0] at hu; cases hu
        rw [show 1 * 3 + t = (1 + t / 3) * 3 by omega]; exact c0
      · rw [show t / 3 * 3 + 1 = t by omega] at q1
        rw [q1] at hu; cases hu
        rw [show 1 * 3 + t = (1 + t / 3) * 3 + 1 by omega]; exact c1
      · rw [show t / 3 * 3 + 2 = t by omega] at q2
        rw [q2] at hu; cases hu
        rw [show 1 * 3 + t = (1 + t / 3) * 3 + 2 by omega]; exact c2
  have s1 : Hid (news.length = (n - 1) * 3) := Lib.hid hlen
  have s2 : Hid (∀ u ∈ news, u.oneCell' = true) := Lib.hid (by rw [hnews]; exact enCells_one _)
  have s3 : Hid (∀ t, t < news.length → (w.drew.cell? ⟨g, 0 + 0 * 3 + t, none⟩).isSome = true ∧ w.drew.frozen? ⟨g, 0 + 0 * 3 + t, none⟩ = false) := Lib.hid (by
    intro t ht
    rw [hlen] at ht
    have := HR.out.drew.any (0 + 0 * 3 + t) (by omega)
    exact this)
  obtain ⟨W1, hW1⟩ : ∃ W1, W1 = w.drew.setCells g (0 + 0 * 3) news := ⟨_, rfl⟩
  have hH1 : Hid (RowP W1 g c 100 (fun i e => (l.drop 1)[i]? = some e)) := Lib.hid (by
    rw [hW1, hnews]
    exact HR.out.drew.lay (l.drop 1) (by rw [List.length_drop, ← HN.out]; omega))
  have HG1 : w.grownBy W1 (some g) := by rw [hW1]; exact only_setCells _ _ (only_drew (only_refl w g))
  have hcl : ∀ ty, (Builtin.clear_ #[95] ty #[.slice (some ⟨g, (n - 1) * 3, none⟩) (n - (n - 1)) (c - (n - 1))]).run Tryd.prog W1 = .ok (.tuple #[]) (W1.setCells g ((n - 1) * 3) (Builtin.zeroCells #[.int .i64 0, .int .i64 0, .int .i64 0] (n - (n - 1))).toList) :=
    fun ty => run_clear_three W1 _ _ ty Tryd.underlying95 Tryd.zeroValue100 g ((n - 1) * 3) (n - (n - 1)) (c - (n - 1)) (by omega) (fun j hj => (hH1.out.any ((n - 1) * 3 + j) (by omega)).1) (fun j hj => hH1.out.froz ((n - 1) * 3 + j))
  have hW : Hid (W1 = w.drew.setCells g (0 + 0 * 3) news) := Lib.hid hW1
  have n1 : (1 : Int) ≤ (n : Int) := by omega
  have n2 : (n : Int) ≤ (c : Int) := by omega
  have n3 : ¬ (n : Int) < 1 := by omega
  clear hW1 hnews hlen
  go_enter Tryd.func61, Tryd.ntmps61
  go_wp2_with fail
  go_region_law (refine step_append_room rfl (.tmp 22) (.tmp 25) 95 rfl 100 i0 3 Tryd.underlying95 hi0 hz1 g 0 0 c (by simp [Act.eval, Act.put]) A (n - 1) (c - 1) news (by simp [Act.eval, Act.put]) s1.out hsrc.out s2.out (by omega) s3.out ?_; rw [← hW.out])
  go_wp2_with fail
  go_ret
  have hlen : (l.drop 1).length = n - 1 := by rw [List.length_drop, HN.out]
  refine ⟨by rw [hlen]; rfl, hH1.out.setCells (n - 1) _ fun j x hx => ⟨hx, ?_⟩, only_setCells _ _ HG1⟩
  rw [← hlen]; exact (List.getElem?_eq_some_iff.1 hx).1
end Go.Proofs.YtmcfllogcmnnoaaDoor.Ic
