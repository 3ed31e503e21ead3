/-
  The contract of slices.DeleteFunc at entries, for every function value that answers a plain test.
-/
import Derived.Test.YtmcfllogcmnnoaaDoorPath2
namespace Go.Proofs.YtmcfllogcmnnoaaDoor.Ic
set_option maxRecDepth 100000
open Go.RowKit Go.Proofs.YtmcfllogcmnnoaaDoor.Wire

theorem idxI_cases (p : En → Bool) (l : List En) : (idxI p l = -1 ∧ keepL p l = l) ∨ ∃ k x, idxI p l = ((k : Nat) : Int) ∧ l[k]? = some x ∧ p x = true ∧ ∀ (j : Nat) (e : En), j < k → l[j]? = some e → p e = false := by
  cases h : l.findIdx? p with
  | none =>
    left
    have := List.findIdx?_eq_none_iff.1 h
    refine ⟨by unfold idxI; rw [h], ?_⟩
    unfold keepL
    rw [List.filter_eq_self]
    intro e he
    simp [this e he]
  | some k =>
    right
    rw [List.findIdx?_eq_some_iff_getElem] at h
    obtain ⟨hk, hp, hj⟩ := h
    have hk' : l[k]? = some l[k] := List.getElem?_eq_getElem hk
    have hall : ∀ (j : Nat) (e : En), j < k → l[j]? = some e → p e = false := fun j e hjk he => by
      obtain ⟨hl, rfl⟩ := List.getElem?_eq_some_iff.1 he
      simpa using hj j hjk
    exact ⟨k, l[k], idxI_some hk' hp hall, hk', hp, hall⟩
set_option maxHeartbeats 4000000 in
theorem delete_any (fn : Nat) (lb : Array Value) (eg : ∀ args w, (callFunc fn args).run Tryd.prog w = .ok (.enter fn args) w) (p : En → Bool) (g c : Nat) (l : List En) (w : World) (hl : l.length ≤ c) (hc : l.length ≤ 1000000)
    (hr : RowP w g c 100 (fun i e => l[i]? = some e)) (hp : Tests fn lb p g l w) :
    Calls Tryd.prog 56 #[.slice (some ⟨g, 0, none⟩) l.length c, .func (.func fn) #[] lb] w fun x w' =>
      x = .returned (.slice (some ⟨g, 0, none⟩) (keepL p l).length c) ∧ RowP w' g c 100 (fun i e => (keepL p l)[i]? = some e) ∧ w.grownBy w' (some g) := by
  have HI := Lib.hid (index_any fn lb eg p g c l w (by omega) hr hp)
  have HR := Lib.hid hr; have HP := Lib.hid hp; clear hr hp
  obtain ⟨n, hn⟩ : ∃ n, n = l.length := ⟨_, rfl⟩
  rw [← hn] at hl hc HI ⊢
  have HN := Lib.hid hn; clear hn
  rcases idxI_cases p l with ⟨e1, e2⟩ | ⟨k0, x0, e1, hx0, hp0, hall⟩
  · rw [e1] at HI
    have HK := Lib.hid e2; clear e1 e2
    go_enter Tryd.func56, Tryd.ntmps56
    go_wp2_with fail
    refine HI.out.mono ?_
    rintro e w1 ⟨rfl, hb⟩
    go_wp2_with fail
    go_ret
    exact ⟨by rw [HK.out, ← HN.out]; rfl, by rw [HK.out]; exact HR.out.below hb, only_of_below hb⟩
  · rw [e1] at HI
    obtain ⟨hs, hs2⟩ := Half.start hx0 hp0 hall
    have HS := Lib.hid hs; have HS2 := Lib.hid hs2
    have HX0 : Hid (k0 < n) := Lib.hid (by rw [HN.out]; exact (List.getElem?_eq_some_iff.1 hx0).1)
    clear e1 hx0 hp0 hall hs hs2
    go_enter Tryd.func56, Tryd.ntmps56
    have hk0 : ((k0 : Int) == -1) = false := beq_eq_false_iff_ne.2 (by omega)
    have hk1 : (k0 : Int) ≤ 1000000 := by have := HX0.out; omega
    have hk2 : (0 : Int) ≤ (k0 : Int) := by omega
    go_wp2_with fail
    refine HI.out.mono ?_
    rintro e w1 ⟨rfl, hb⟩
    have HG := only_of_below (B := g) hb
    have HR1 := Lib.hid ((HR.out.below hb).mono (Q := HalfP p l (k0 + 1)) (fun i e he => by
      rcases he with he | ⟨-, he⟩
      · exact HS2.out i e he
      · exact he))
    clear hb
    go_wp2_with fail
    clear hk0 hk1 hk2
    go_loopw [5, 6, 7] (fun a b _ wr => ∃ k m : Nat, m ≤ n ∧ a = .int .i64 (k : Int) ∧ b = .int .i64 (m : Int) ∧ Half p l m k ∧ RowP wr g c 100 (HalfP p l m) ∧ w.grownBy wr (some g)) (fun _ b _ _ => n - (Go.RowKit.intOf b).toNat)
    case atStart => exact ⟨k0, k0 + 1, by have := HX0.out; omega, rfl, by go_num, HS.out, HR1.out, HG⟩
    case round =>
      clear HG HR1
      obtain ⟨k, m, hm, rfl, rfl, hH, hrow, HG⟩ := hrel
      have HR2 := Lib.hid hrow; have HH := Lib.hid hH; clear hrow hH
      have hkm := HH.out.lt
      have hgl := HR2.out.lt
      by_cases hlt : m < n
      · have k1 : (0 : Int) ≤ (m : Int) := by omega
        have k2 : (m : Int) < (n : Int) := by omega
        obtain ⟨x, hx⟩ : ∃ x, l[m]? = some x := ⟨l[m]'(by rw [← HN.out]; exact hlt), List.getElem?_eq_getElem _⟩
        obtain ⟨c0, c1, c2⟩ := HR2.out.cells m x (.inr ⟨Nat.le_refl _, hx⟩)
        have HX := Lib.hid hx; clear hx
        have HC : Hid (∀ W, w.grownBy W (some g) → Calls Tryd.prog fn (#[enV x] ++ lb) W fun x' W' => x' = .returned (.bool (p x)) ∧ Below W.heap.size W W') := Lib.hid fun W hb => HP.out x (List.mem_of_getElem? HX.out) W hb
        have hA := Lib.hid (alloc_new wr (.cells #[.int .i64 x.to, .int .i64 x.size, .int .i64 x.at_] 100))
        have HGA := only_alloc (o := .cells #[.int .i64 x.to, .int .i64 x.size, .int .i64 x.at_] 100) HG
        have HRA := Lib.hid (HR2.out.alloc (.cells #[.int .i64 x.to, .int .i64 x.size, .int .i64 x.at_] 100))
        have a0 := (cell_of_block (k := 0) hA.out rfl).1; have a1 := (cell_of_block (k := 1) hA.out rfl).1; have a2 := (cell_of_block (k := 2) hA.out rfl).1
        unfold enV at HC
        cases hq : p x with
        | true =>
          rw [hq] at HC
          have HQ := Lib.hid hq; clear hq
          go_wp2_with (go_at_fn fn; refine (HC.out _ HGA).mono ?_; rintro e w2 ⟨rfl, hb⟩)
          have hne : ((g : Nat) ≠ wr.heap.size) := by omega
          refine ⟨⟨k, m + 1, by omega, rfl, by go_num, ⟨?_, by omega⟩, (HRA.out.below hb).mono fun i e he => ?_, only_call HGA hb⟩, by simp [Go.RowKit.intOf]; omega⟩
          · rw [keepL_succ HX.out, if_pos HQ.out, List.append_nil]; exact HH.out.len
          · unfold HalfP at he ⊢
            rw [keepL_succ HX.out, if_pos HQ.out, List.append_nil] at he
            rcases he with he | ⟨h1, h2⟩
            · exact .inl he
            · exact .inr ⟨by omega, h2⟩
        | false =>
          rw [hq] at HC
          have HQ := Lib.hid hq; clear hq
          go_wp2_with (go_at_fn fn; refine (HC.out _ HGA).mono ?_; rintro e w2 ⟨rfl, hb⟩; have b0 := bcell hb a0; have b1 := bcell hb a1; have b2 := bcell hb a2; have HR3 := Lib.hid (HRA.out.below hb); have HG3 := only_call HGA hb; obtain ⟨u0, s0⟩ := Option.isSome_iff_exists.1 (HR3.out.any (k * 3) (by omega)).1; obtain ⟨u1, s1⟩ := Option.isSome_iff_exists.1 (HR3.out.any (k * 3 + 1) (by omega)).1; obtain ⟨u2, s2⟩ := Option.isSome_iff_exists.1 (HR3.out.any (k * 3 + 2) (by omega)).1; have f0 := HR3.out.froz (k * 3); have f1 := HR3.out.froz (k * 3 + 1); have f2 := HR3.out.froz (k * 3 + 2); have k3 : (0 : Int) ≤ (k : Int) := (by omega); have k4 : (k : Int) < (n : Int) := (by omega))
          refine ⟨⟨k + 1, m + 1, by omega, by go_num, by go_num, ⟨?_, by omega⟩, HR3.out.set k (by omega) x fun i e he => ?_, only_set (only_set (only_set HG3 (.inl rfl) _) (.inl rfl) _) (.inl rfl) _⟩, by simp [Go.RowKit.intOf]; omega⟩
          · rw [keepL_succ HX.out, if_neg (by rw [HQ.out]; decide), List.length_append, HH.out.len]; rfl
          · unfold HalfP at he ⊢
            rw [keepL_succ HX.out, if_neg (by rw [HQ.out]; decide)] at he
            have hl := HH.out.len
            rcases he with he | ⟨h1, h2⟩
            · rcases Nat.lt_trichotomy i k with q | q | q
              · rw [List.getElem?_append_left (by omega)] at he
                exact .inr ⟨by omega, .inl he⟩
              · subst q
                rw [List.getElem?_append_right (by omega), hl, Nat.sub_self] at he
                exact .inl ⟨rfl, (Option.some.inj he).symm⟩
              · rw [List.getElem?_eq_none (by simp; omega)] at he; cases he
            · exact .inr ⟨by omega, .inr ⟨by omega, h2⟩⟩
      · have hmn : m = n := by omega
        have HK : Hid (l.take m = l) := Lib.hid (List.take_of_length_le (by rw [← HN.out]; omega))
        clear hlt
        have HM := Lib.hid hmn
        subst hmn
        have hz : ¬ (m : Int) < (m : Int) := by omega
        have k3 : (0 : Int) ≤ (k : Int) := by omega
        have k4 : (k : Int) ≤ (m : Int) := by omega
        have k5 : (k : Int) ≤ (c : Int) := by omega
        have hcl : ∀ ty, (Builtin.clear_ #[95] ty #[.slice (some ⟨g, k * 3, none⟩) (m - k) (c - k)]).run Tryd.prog wr = .ok (.tuple #[]) (wr.setCells g (k * 3) (Builtin.zeroCells #[.int .i64 0, .int .i64 0, .int .i64 0] (m - k)).toList) :=
          fun ty => run_clear_three wr _ _ ty Tryd.underlying95 Tryd.zeroValue100 g (k * 3) (m - k) (c - k) (by omega) (fun j hj => (HR2.out.any (k * 3 + j) (by omega)).1) (fun j hj => HR2.out.froz (k * 3 + j))
        go_wp2_with fail
        go_ret
        have hlen : (keepL p l).length = k := by rw [← HK.out]; exact HH.out.len
        refine ⟨by rw [hlen]; rfl, HR2.out.setCells k _ fun j x hx => ?_, only_setCells _ _ HG⟩
        have hj : j < k := by rw [← hlen]; exact (List.getElem?_eq_some_iff.1 hx).1
        refine ⟨.inl ?_, hj⟩
        rw [HK.out]; exact hx
end Go.Proofs.YtmcfllogcmnnoaaDoor.Ic
