/-
  Contracts of segment.Len, slices.Equal at blocks, and of the reference's Same.
-/
import Derived.Test.YtmgjcjacoegocaaDoorSgEnc
namespace Go.Proofs.YtmgjcjacoegocaaDoor.Sg
set_option maxRecDepth 100000
open Go.RowKit Go.Proofs.YtmgjcjacoegocaaDoor.Wire

theorem len_any (fp tp sq ack : Int) (syn fin rst ha : Bool) (win mss : Int) (sacks : Bool) (A : Option Addr) (n c : Nat) (s : ByteArray) (w : World) (hs : s.size ≤ 1000000) :
    Calls Tryd.prog 26 #[.agg #[.int .i64 fp, .int .i64 tp, .int .i64 sq, .int .i64 ack, .bool syn, .bool fin, .bool rst, .bool ha, .int .i64 win, .int .i64 mss, .bool sacks, .slice A n c, .string s]] w fun e w' => e = .returned (.int .i64 (if syn || fin then (s.size : Int) + 1 else (s.size : Int))) ∧ Below w.heap.size w w' := by
  cases syn <;> cases fin
  all_goals
    go_enter Tryd.func26, Tryd.ntmps26
    go_wp2
    go_ret
    exact ⟨rfl, (Below.refl _ _).alloc (Nat.le_refl _) _⟩

theorem eq_of_take {l l' : List (Int × Int)} {n : Nat} (h1 : l.length = n) (h2 : l'.length = n) (h : ∀ (j : Nat), j < n → l[j]? = l'[j]?) : l = l' := by
  apply List.ext_getElem?
  intro j
  by_cases hj : j < n
  · exact h j hj
  · rw [List.getElem?_eq_none (by omega), List.getElem?_eq_none (by omega)]
set_option maxRecDepth 100000 in
set_option maxHeartbeats 4000000 in
theorem spEq_any (A A' : Option Addr) (n n' c c' : Nat) (l l' : List (Int × Int)) (w : World) (hn : n ≤ 9223372036854775807) (hb : Bks w A n l) (hb' : Bks w A' n' l') :
    Calls Tryd.prog 65 #[.slice A n c, .slice A' n' c'] w fun e w' => e = .returned (.bool (decide (l = l'))) ∧ Below w.heap.size w w' := by
  have HB0 := Lib.hid hb; have HB1 := Lib.hid hb'; clear hb hb'
  have HL := Lib.hid HB0.out.1; have HL' := Lib.hid HB1.out.1
  by_cases hne : n = n'
  · subst hne
    have HB := Below.refl w.heap.size w
    go_enter Tryd.func65, Tryd.ntmps65
    go_wp2_with fail
    go_loopw [13] (fun i wr => ∃ k : Nat, k ≤ n ∧ i = .int .i64 (k : Int) ∧ (∀ (j : Nat), j < k → l[j]? = l'[j]?) ∧ Below w.heap.size w wr) (fun i _ => n - (intOf i).toNat)
    case atStart => exact ⟨0, by omega, rfl, fun j hj => by omega, HB⟩
    case round =>
      clear HB
      obtain ⟨k, hk, rfl, hok, HB⟩ := hrel
      have HO := Lib.hid hok; clear hok
      by_cases hlt : k < n
      · obtain ⟨g, a, b, rfl, hx, hg, c0, c1⟩ := HB0.out.at_ k hlt
        obtain ⟨g', a', b', rfl, hx', hg', c0', c1'⟩ := HB1.out.at_ k hlt
        have HX := Lib.hid hx; have HX' := Lib.hid hx'; clear hx hx'
        have d0 := (HB.cell (p := ⟨g, k * 2, none⟩) hg).trans c0
        have d1 := (HB.cell (p := ⟨g, k * 2 + 1, none⟩) hg).trans c1
        have d2 := (HB.cell (p := ⟨g', k * 2, none⟩) hg').trans c0'
        have d3 := (HB.cell (p := ⟨g', k * 2 + 1, none⟩) hg').trans c1'
        clear c0 c1 c0' c1'
        have k1 : (0 : Int) ≤ (k : Int) := by omega
        have k2 : (k : Int) < (n : Int) := by omega
        by_cases e1 : a = a'
        · subst e1
          by_cases e2 : b = b'
          · subst e2
            go_wp2_with fail
            go_quiet (fail)
            go_wp2_with fail
            go_roundw
            case rel => exact ⟨k + 1, by omega, by go_num, fun j hj => by
              rcases Nat.lt_succ_iff_lt_or_eq.1 hj with q | q
              · exact HO.out j q
              · subst q; rw [HX.out, HX'.out], below_drewN HB _⟩
            case measure => simp [intOf]; omega
          · have hF : Hid (decide (l = l') = false) := Lib.hid (decide_eq_false fun q => e2 (by have h1 := HX.out; have h2 := HX'.out; rw [q, h2] at h1; simpa using (congrArg Prod.snd (Option.some.inj h1)).symm))
            have e3 : (b == b') = false := beq_eq_false_iff_ne.2 e2
            clear e2
            go_wp2_with fail
            go_quiet (fail)
            go_wp2_with fail
            go_ret
            exact ⟨ret_bool hF.out.symm, below_drewN HB _⟩
        · have hF : Hid (decide (l = l') = false) := Lib.hid (decide_eq_false fun q => e1 (by have h1 := HX.out; have h2 := HX'.out; rw [q, h2] at h1; simpa using (congrArg Prod.fst (Option.some.inj h1)).symm))
          have e3 : (a == a') = false := beq_eq_false_iff_ne.2 e1
          clear e1
          go_wp2_with fail
          go_quiet (fail)
          go_wp2_with fail
          go_ret
          exact ⟨ret_bool hF.out.symm, below_drewN HB _⟩
      · have hkn : k = n := by omega
        have hT : Hid (decide (l = l') = true) := Lib.hid (decide_eq_true (eq_of_take HL.out HL'.out fun j hj => HO.out j (by omega)))
        go_wp2_with fail
        go_ret
        exact ⟨ret_bool hT.out.symm, HB⟩
  · have hF : Hid (decide (l = l') = false) := Lib.hid (decide_eq_false fun q => hne (by rw [← HL.out, ← HL'.out, q]))
    have e1 : ((n : Int) != (n' : Int)) = true := by simp; omega
    have e2 : (n != n') = true := by simp; omega
    clear hne
    go_enter Tryd.func65, Tryd.ntmps65
    go_wp2_with fail
    go_ret
    exact ⟨ret_bool hF.out.symm, Below.refl _ _⟩
end Go.Proofs.YtmgjcjacoegocaaDoor.Sg
