/-
  The contract of icmp.Valid.
-/
import Derived.Test.YtloialpcdedekaaDoorIc1
import Derived.Test.YtloialpcdedekaaDoorStore
import Derived.Deep.DeepCutAuto
namespace Go.Proofs.YtloialpcdedekaaDoor.Ic
set_option maxRecDepth 100000
open Go.RowKit Go.Proofs.YtloialpcdedekaaDoor.Wire

theorem FnOf.stN {B : Nat} {k : Int} {fn : Value} : ∀ (vs : List Value) (W : World) (j : Nat) (arr : Array Value) (_ : FnOf W k fn) (_ : W.heap[B]? = some (.cells arr 93 (0, 0))), FnOf (stN W B j vs) k fn
  | [], _, _, _, h, _ => h
  | v :: vs, W, j, arr, h, hB => by
    refine FnOf.stN vs (W.setCell ⟨B, j, none⟩ v) (j + 1) (arr.setIfInBounds j v) ?_ (block_setCell hB)
    rcases h with h | h | ⟨h, a, b, e, ha, hb'⟩ | h
    · exact Or.inl h
    · exact Or.inr (Or.inl h)
    · refine Or.inr (Or.inr (Or.inl ⟨h, a, b, e, block_set_other ha (fun q => ?_), block_set_other hb' (fun q => ?_)⟩))
      · have q : B = a := q
        subst q; rw [hB] at ha; simp at ha
      · have q : B = b := q
        subst q; rw [hB] at hb'; simp at hb'
    · exact Or.inr (Or.inr (Or.inr h))
theorem FnOf.alloc {W : World} {k : Int} {fn : Value} (h : FnOf W k fn) (o : Obj) : FnOf (W.alloc o) k fn := h.below ((Below.refl _ _).alloc (Nat.le_refl _) o)
theorem isRules_lt {W : World} {r : Nat} (h : IsRules W r) : r < W.heap.size := by
  obtain ⟨es, clk, v3, v4, hr, -⟩ := h
  exact blk_lt hr
theorem mokB_eq (k c n : Int) (z : Nat) : mokB k c n z = (knownB k && (decide (Suits k c n) && decide ((z : Int) ≤ mostOf k))) := by
  unfold mokB knownB MOk
  rw [← Bool.decide_and, ← Bool.decide_and]
theorem fnStore {W : World} {k : Int} {fn : Value} (h : FnOf W k fn) (w : World) (a : Addr) : (store a fn .plain).run Tryd.prog w = stored Tryd.prog w a fn .plain := by
  rcases h with ⟨-, e⟩ | ⟨-, e⟩ | ⟨-, x, y, e, -, -⟩ | ⟨-, e⟩
  all_goals (subst e; exact run_store _ _ _ _ _ rfl)
set_option maxHeartbeats 1000000 in
theorem valid_any (kind code n : Int) (s : ByteArray) (w : World) (hs : s.size ≤ 9223372036854775807) :
    Calls Tryd.prog 27 #[.agg #[.int .i64 kind, .int .i64 code, .int .i64 n, .string s]] w fun e w' => e = .returned (.bool (mokB kind code n s.size)) ∧ Below w.heap.size w w' := by
  have Hm := Lib.hid (alloc_new w (.cells #[.int .i64 kind, .int .i64 code, .int .i64 n, .string s] 33))
  have HB := below_alloc (o := .cells #[.int .i64 kind, .int .i64 code, .int .i64 n, .string s] 33) (Below.refl w.heap.size w)
  go_enter Tryd.func27, Tryd.ntmps27
  go_upto_region 1 with fail
  generalize w.alloc (.cells #[.int .i64 kind, .int .i64 code, .int .i64 n, .string s] 33) = W at *
  go_cut [3, 4] (fun s3 s4 wz => ∃ (B : Nat) (fn : Value), s3 = .pointer (some ⟨B, 0, none⟩) ∧ s4 = .bool (knownB kind) ∧ wz.heap[B]? = some (.cells #[.bool (failB kind), .int .i64 (mostOf kind), fn] 93 (0, 0)) ∧ FnOf wz kind fn ∧ Below W.heap.size W wz)
  case first =>
    have g0 : Hid (W.cell? ⟨w.heap.size, 0, none⟩ = some (.int .i64 kind)) := Lib.hid (cell_of_block (k := 0) Hm.out rfl).1
    have HR := Below.refl W.heap.size W
    go_region_held3 (fun w' => w'.cell? ⟨w.heap.size, 0, none⟩ = some (.int .i64 kind) ∧ Below W.heap.size W w') (first | with_reducible exact ⟨bcell hR2.out g0.out, hR2.out⟩ | with_reducible exact ⟨bcell (below_alloc hR2.out) g0.out, below_alloc hR2.out⟩ | (have _t := hN; exact ⟨bcell (stN_below (Nat.le_refl _) [.bool (failB kind), .int .i64 (mostOf kind), fn] v2 0 hR2.out) g0.out, stN_below (Nat.le_refl _) [.bool (failB kind), .int .i64 (mostOf kind), fn] v2 0 hR2.out⟩) | exact ⟨g0.out, HR.drew⟩ | exact ⟨cell_alloc' (.cells #[.bool false, .int .i64 0, .nilFunc] 93) g0.out, (below_alloc HR).drew⟩)
      ((go_at_call 45; refine (rules_any _).mono ?_; rintro e v2 ⟨r, rfl, hr, hb2⟩; obtain ⟨fn, hfn, hl⟩ := rules_look hr kind; have hl1 := hl v2 rfl true; have hl2 := fun o => hl (v2.alloc o) (Below.heap_alloc v2 o r (isRules_lt hr)) true; unfold ruleV at hl1 hl2; clear hl hr; have hst := fnStore hfn; (first | (have hR2 := Lib.hid (below_call HR.drew hb2)) | (have hR2 := Lib.hid (below_call (below_alloc HR).drew hb2); have hN := Lib.hid (bblock hb2 (alloc_new W (.cells #[.bool false, .int .i64 0, .nilFunc] 93))); obtain ⟨⟨m0, m1, m2⟩, n0, n1, n2⟩ := cells3 hN.out))))
    all_goals
      go_wp2_with fail
      go_meet
      first | (have _t := hN; exact ⟨_, fn, rfl, rfl, stN_all [.bool (failB kind), .int .i64 (mostOf kind), fn] hN.out rfl, FnOf.stN [.bool (failB kind), .int .i64 (mostOf kind), fn] _ 0 _ hfn hN.out, stN_below (Nat.le_refl _) [.bool (failB kind), .int .i64 (mostOf kind), fn] _ 0 hR2.out⟩) | exact ⟨_, fn, rfl, rfl, alloc_new v2 _, FnOf.alloc hfn _, below_alloc hR2.out⟩
  case rest =>
    obtain ⟨B, fn, rfl, rfl, hR, hfn, hb⟩ := hcut
    have HB' := below_call HB hb; clear HB; have HB := HB'; clear HB'
    have Hm' := Lib.hid (bblock hb Hm.out); clear Hm hb; have Hm := Hm'; clear Hm'
    obtain ⟨⟨p0, p1, p2, p3⟩, -⟩ := cells4 Hm.out
    obtain ⟨⟨q0, q1, q2⟩, -⟩ := cells3 hR
    clear hR
    rcases hfn with ⟨hk, rfl⟩ | ⟨hk, rfl⟩ | ⟨hk, a, b, rfl, ha, hb⟩ | ⟨hk, rfl⟩
    · have ek : knownB kind = true := by unfold knownB; simp; omega
      have em : mostOf kind = 500 := by unfold mostOf; rw [if_pos hk]
      have eo := mokB_eq kind code n s.size
      rw [ek, em] at eo
      rw [em] at q1
      have HC := Lib.hid fun W'' (_ : Below wc.heap.size wc W'') => echo_suits kind code n W'' hk
      generalize decide (Suits kind code n) = sb at *
      by_cases h5 : s.size ≤ 500
      · have d5 : decide ((s.size : Int) ≤ 500) = true := by simp; omega
        go_wp2_with fail
        refine (HC.out _ (Below.refl _ _)).mono ?_
        rintro e w' ⟨rfl, rfl⟩
        cases sb
        all_goals
          go_wp2_with fail
          go_ret
          exact ⟨ret_bool (by rw [eo]; first | (simp; done) | (simp; omega)), HB⟩
      · have d5 : decide ((s.size : Int) ≤ 500) = false := by simp; omega
        go_wp2_with fail
        refine (HC.out _ (Below.refl _ _)).mono ?_
        rintro e w' ⟨rfl, rfl⟩
        cases sb
        all_goals
          go_wp2_with fail
          go_ret
          exact ⟨ret_bool (by rw [eo]; first | (simp; done) | (simp; omega)), HB⟩
    · have ek : knownB kind = true := by unfold knownB; simp; omega
      have es : decide (Suits kind code n) = decide (Suits 5 code n) := by rw [hk]
      have em : mostOf kind = 28 := by unfold mostOf; rw [if_neg (by omega), if_pos (by omega)]
      have eo := mokB_eq kind code n s.size
      rw [ek, em] at eo
      rw [em] at q1
      have HC := Lib.hid fun W'' (_ : Below wc.heap.size wc W'') => es ▸ big_suits code n W''
      clear es hk
      generalize decide (Suits kind code n) = sb at *
      by_cases h5 : s.size ≤ 28
      · have d5 : decide ((s.size : Int) ≤ 28) = true := by simp; omega
        go_wp2_with fail
        refine (HC.out _ (Below.refl _ _)).mono ?_
        rintro e w' ⟨rfl, rfl⟩
        cases sb
        all_goals
          go_wp2_with fail
          go_ret
          exact ⟨ret_bool (by rw [eo]; first | (simp; done) | (simp; omega)), HB⟩
      · have d5 : decide ((s.size : Int) ≤ 28) = false := by simp; omega
        go_wp2_with fail
        refine (HC.out _ (Below.refl _ _)).mono ?_
        rintro e w' ⟨rfl, rfl⟩
        cases sb
        all_goals
          go_wp2_with fail
          go_ret
          exact ⟨ret_bool (by rw [eo]; first | (simp; done) | (simp; omega)), HB⟩
    · have ek : knownB kind = true := by unfold knownB; simp; omega
      have es : decide (Suits kind code n) = decide ((1 ≤ code ∧ code ≤ (if kind = 3 then 4 else 2)) ∧ n = 0) := by
        unfold Suits
        rcases hk with rfl | rfl <;> simp
      have em : mostOf kind = 28 := by unfold mostOf; rw [if_neg (by omega), if_pos (by omega)]
      have eo := mokB_eq kind code n s.size
      rw [ek, em] at eo
      rw [em] at q1
      have HC := Lib.hid fun W'' (hbw : Below wc.heap.size wc W'') => es ▸ coded_suits (if kind = 3 then 4 else 2) code n a b W'' (bblock hbw ha) (bblock hbw hb)
      clear es hk ha hb
      generalize decide (Suits kind code n) = sb at *
      by_cases h5 : s.size ≤ 28
      · have d5 : decide ((s.size : Int) ≤ 28) = true := by simp; omega
        go_wp2_with fail
        refine (HC.out _ (Below.refl _ _)).mono ?_
        rintro e w' ⟨rfl, rfl⟩
        cases sb
        all_goals
          go_wp2_with fail
          go_ret
          exact ⟨ret_bool (by rw [eo]; first | (simp; done) | (simp; omega)), HB⟩
      · have d5 : decide ((s.size : Int) ≤ 28) = false := by simp; omega
        go_wp2_with fail
        refine (HC.out _ (Below.refl _ _)).mono ?_
        rintro e w' ⟨rfl, rfl⟩
        cases sb
        all_goals
          go_wp2_with fail
          go_ret
          exact ⟨ret_bool (by rw [eo]; first | (simp; done) | (simp; omega)), HB⟩
    · have ek : knownB kind = false := by unfold knownB; simp; omega
      have eo := mokB_eq kind code n s.size
      rw [ek] at eo
      go_wp2_with fail
      go_ret
      exact ⟨ret_bool (by rw [eo]; rfl), HB⟩
end Go.Proofs.YtloialpcdedekaaDoor.Ic
