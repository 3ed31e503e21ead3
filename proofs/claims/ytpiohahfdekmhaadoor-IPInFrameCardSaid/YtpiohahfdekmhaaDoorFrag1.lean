/-
  The contract of the iterator of ip.pieces: it hands the fragments to the loop's body, one behind the other.
-/
import Derived.Test.YtpiohahfdekmhaaDoorFrag0
import Derived.Test.YtpiohahfdekmhaaDoorCheck
import Derived.Outline
namespace Go.Proofs.YtpiohahfdekmhaaDoor.Ip
set_option maxRecDepth 100000
open Go.RowKit Go.Shelf Go.Proofs.YtpiohahfdekmhaaDoor.Wire
attribute [local go_sem] Oper.semAt_some

def KeepsPN (Bp Bn : Nat) (p : Pk) (n : Nat) (W W' : World) : Prop := KeepsB Bp (.cells p.cells.toArray 26) W W' ∧ KeepsB Bn (.cells #[.int .i64 (n : Int)] 3) W W' ∧ W.heap.size ≤ W'.heap.size

set_option maxRecDepth 100000 in
set_option maxHeartbeats 2000000 in
theorem pieces1_in (F : Fence) (m : Nat) (h6 : F.fn 39) (hro : F.round = none) (hm : 1 ≤ m) (l Bp Bn : Nat) (p : Pk) (n : Nat) (hs : p.s.size ≤ 4000) (hn : 1 ≤ n) (hn' : n ≤ 4000) (ho : 0 ≤ p.off) (ho' : p.off ≤ 4000) (J Jx : List Pk → World → Prop)
    (W : World) (hJ : AbidesFrom W.heap.size J)
    (hY : ∀ pre x W, J pre W → pre.length < count p n → YieldAt F (m - 1) Tryd.prog l #[x.val] W fun e W' =>
      (e = .returned (.bool true) ∧ J (pre ++ [x]) W' ∧ KeepsPN Bp Bn p n W W') ∨ (e = .returned (.bool false) ∧ Jx (pre ++ [x]) W'))
    (hBp : W.heap[Bp]? = some (.cells p.cells.toArray 26)) (hBn : W.heap[Bn]? = some (.cells #[.int .i64 (n : Int)] 3)) (h0 : J [] W) :
    CallsIn F m Tryd.prog 39 #[.func (.yield l) #[] #[], .pointer (some ⟨Bp, 0, none⟩), .pointer (some ⟨Bn, 0, none⟩)] W fun e W' => (∃ v, e = .returned v) ∧
      ((∃ ys, ys = frags p n (count p n) ∧ J ys W') ∨ (∃ pre : List Pk, True ∧ Jx pre W')) := by
  refine callsIn_of_wp Tryd.func39 rfl h6 ?_ hro
  simp only [Tryd.ntmps39, List.size_toArray, List.length_cons, List.length_nil, Nat.reduceAdd, Nat.reduceSub, Array.replicate_succ, Array.replicate_zero, List.push_toArray, List.append_toArray, List.nil_append, List.cons_append]
  gi_wp2
  gi_loopw [4] (fun i wr => ∃ k : Nat, i = .int .i64 ((n * k : Nat) : Int) ∧ (∀ j, j < k → n * j < p.s.size) ∧ W.heap.size ≤ wr.heap.size ∧ wr.heap[Bp]? = some (.cells p.cells.toArray 26) ∧ wr.heap[Bn]? = some (.cells #[.int .i64 (n : Int)] 3) ∧ J (frags p n k) wr)
    (fun i wr => p.s.size + n - (intOf i).toNat)
  case atStart =>
    exact ⟨0, by simp, fun j hj => by omega, Nat.le_refl _, hBp, hBn, h0⟩
  case round =>
    obtain ⟨k, rfl, hk, hW, hp, hc, hJs⟩ := hrel
    have HK := Lib.hid hk; clear hk
    have Hp := Lib.hid hp
    obtain ⟨⟨q0, q1, q2, q3, q4, q5, q6, q7, q8⟩, z0, z1, z2, z3, z4, z5, z6, z7, z8⟩ := cells9 hp
    clear hp
    have Hc := Lib.hid hc
    obtain ⟨qn, zn⟩ := cell_of_box hc
    clear hc
    have lt_p := blk_lt Hp.out
    have lt_n := blk_lt Hc.out
    by_cases hlt : n * k < p.s.size
    · have hcnt : k < count p n := (count_lt p n k hn).2 hlt
      have HX : Hid (pieceAt p n k = ⟨p.f, p.t, p.pr, p.ttl, p.id, p.df, p.mf || decide (n * k + n < p.s.size), p.off + ((n * k : Nat) : Int), p.s.extract (n * k) (min (n * k + n) p.s.size)⟩) := Lib.hid rfl
      have HN : Hid (n * (k + 1) = n * k + n) := Lib.hid (Nat.mul_succ n k)
      generalize n * k = at0 at *
      by_cases hle : at0 + n < p.s.size
      · have hmin : min (at0 + n) p.s.size = at0 + n := by omega
        rw [hmin, decide_eq_true hle, Bool.or_true] at HX
        have hmin' : min ((at0 : Int) + n) p.s.size = (at0 : Int) + n := by omega
        have hdI : decide ((at0 : Int) + n < p.s.size) = true := by simp; omega
        clear hmin
        obtain ⟨fn, tmps, assign, body, hy, hR⟩ := hY (frags p n k) ⟨p.f, p.t, p.pr, p.ttl, p.id, p.df, true, p.off + (at0 : Int), p.s.extract at0 (at0 + n)⟩ (wr.alloc (.cells #[.int .i64 p.f, .int .i64 p.t, .int .i64 p.pr, .int .i64 p.ttl, .int .i64 p.id, .bool p.df, .bool true, .int .i64 (p.off + (at0 : Int)), .string (p.s.extract at0 (at0 + n))] 26)) (hJ _ _ _ none hJs (World.grownBy_alloc wr _ none) (fun r e => by cases e)) (by rw [frags_length]; exact hcnt)
        dsimp only [Pk.val] at hy
        cases hmf : p.mf
        all_goals
          rw [hmf] at q6
          gi_wp2
          refine hR.mono ?_
          rintro e W3 (⟨rfl, hJ3, hk3⟩ | ⟨rfl, hJx3⟩)
          · obtain ⟨hk4, hk5, hg3⟩ := hk3
            have hg3 : wr.heap.size ≤ W3.heap.size := by simp at hg3; omega
            have hp3 := hk4 (block_alloc Hp.out _)
            have hc3 := hk5 (block_alloc Hc.out _)
            have Hp3 := Lib.hid hp3
            obtain ⟨qn3, zn3⟩ := cell_of_box hc3
            have Hc3 := Lib.hid hc3
            clear hp3 hc3 hk4 hk5 q0 q1 q2 q3 q4 q5 q6 q7 q8 z0 z1 z2 z3 z4 z5 z6 z7 z8 qn zn
            gi_wp2
            go_roundw
            case rel =>
              refine ⟨k + 1, ?_, ?_, ?_, Hp3.out, Hc3.out, ?_⟩
              · rw [HN.out]; go_num
              · intro j hj
                rcases Nat.lt_succ_iff_lt_or_eq.1 hj with c | c
                · exact HK.out j c
                · rw [c]; exact (count_lt p n k hn).1 hcnt
              · exact Nat.le_trans hW hg3
              · rw [frags_succ, HX.out]; exact hJ3
            case measure => simp [intOf]; omega
          · gi_wp2
            refine bodyPost_ret (results_none rfl _ _ _) rfl ?_
            exact ⟨⟨_, rfl⟩, .inr ⟨_, trivial, hJx3⟩⟩
      · by_cases hge : p.s.size < at0 + n
        · have hmin : min (at0 + n) p.s.size = p.s.size := by omega
          rw [hmin, decide_eq_false hle, Bool.or_false] at HX
          have hmin' : min ((at0 : Int) + n) p.s.size = p.s.size := by omega
          have hdJ : decide ((at0 : Int) + n ≤ p.s.size) = false := by simp; omega
          clear hmin
          obtain ⟨fn, tmps, assign, body, hy, hR⟩ := hY (frags p n k) ⟨p.f, p.t, p.pr, p.ttl, p.id, p.df, p.mf, p.off + (at0 : Int), p.s.extract at0 p.s.size⟩ (wr.alloc (.cells #[.int .i64 p.f, .int .i64 p.t, .int .i64 p.pr, .int .i64 p.ttl, .int .i64 p.id, .bool p.df, .bool p.mf, .int .i64 (p.off + (at0 : Int)), .string (p.s.extract at0 p.s.size)] 26)) (hJ _ _ _ none hJs (World.grownBy_alloc wr _ none) (fun r e => by cases e)) (by rw [frags_length]; exact hcnt)
          dsimp only [Pk.val] at hy
          cases hmf : p.mf
          all_goals
            rw [hmf] at q6
            rw [hmf] at hy hR
            gi_wp2
            refine hR.mono ?_
            rintro e W3 (⟨rfl, hJ3, hk3⟩ | ⟨rfl, hJx3⟩)
            · obtain ⟨hk4, hk5, hg3⟩ := hk3
              have hg3 : wr.heap.size ≤ W3.heap.size := by simp at hg3; omega
              have hp3 := hk4 (block_alloc Hp.out _)
              have hc3 := hk5 (block_alloc Hc.out _)
              have Hp3 := Lib.hid hp3
              obtain ⟨qn3, zn3⟩ := cell_of_box hc3
              have Hc3 := Lib.hid hc3
              clear hp3 hc3 hk4 hk5 q0 q1 q2 q3 q4 q5 q6 q7 q8 z0 z1 z2 z3 z4 z5 z6 z7 z8 qn zn
              gi_wp2
              go_roundw
              case rel =>
                refine ⟨k + 1, ?_, ?_, ?_, Hp3.out, Hc3.out, ?_⟩
                · rw [HN.out]; go_num
                · intro j hj
                  rcases Nat.lt_succ_iff_lt_or_eq.1 hj with c | c
                  · exact HK.out j c
                  · rw [c]; exact (count_lt p n k hn).1 hcnt
                · exact Nat.le_trans hW hg3
                · rw [frags_succ, HX.out, hmf]; exact hJ3
              case measure => simp [intOf]; omega
            · gi_wp2
              refine bodyPost_ret (results_none rfl _ _ _) rfl ?_
              exact ⟨⟨_, rfl⟩, .inr ⟨_, trivial, hJx3⟩⟩
        · have hmin : min (at0 + n) p.s.size = at0 + n := by omega
          rw [hmin, decide_eq_false hle, Bool.or_false] at HX
          have hmin' : min ((at0 : Int) + n) p.s.size = (at0 : Int) + n := by omega
          have hdI : decide ((at0 : Int) + n < p.s.size) = false := by simp; omega
          clear hmin
          obtain ⟨fn, tmps, assign, body, hy, hR⟩ := hY (frags p n k) ⟨p.f, p.t, p.pr, p.ttl, p.id, p.df, p.mf, p.off + (at0 : Int), p.s.extract at0 (at0 + n)⟩ (wr.alloc (.cells #[.int .i64 p.f, .int .i64 p.t, .int .i64 p.pr, .int .i64 p.ttl, .int .i64 p.id, .bool p.df, .bool p.mf, .int .i64 (p.off + (at0 : Int)), .string (p.s.extract at0 (at0 + n))] 26)) (hJ _ _ _ none hJs (World.grownBy_alloc wr _ none) (fun r e => by cases e)) (by rw [frags_length]; exact hcnt)
          dsimp only [Pk.val] at hy
          cases hmf : p.mf
          all_goals
            rw [hmf] at q6
            rw [hmf] at hy hR
            gi_wp2
            refine hR.mono ?_
            rintro e W3 (⟨rfl, hJ3, hk3⟩ | ⟨rfl, hJx3⟩)
            · obtain ⟨hk4, hk5, hg3⟩ := hk3
              have hg3 : wr.heap.size ≤ W3.heap.size := by simp at hg3; omega
              have hp3 := hk4 (block_alloc Hp.out _)
              have hc3 := hk5 (block_alloc Hc.out _)
              have Hp3 := Lib.hid hp3
              obtain ⟨qn3, zn3⟩ := cell_of_box hc3
              have Hc3 := Lib.hid hc3
              clear hp3 hc3 hk4 hk5 q0 q1 q2 q3 q4 q5 q6 q7 q8 z0 z1 z2 z3 z4 z5 z6 z7 z8 qn zn
              gi_wp2
              go_roundw
              case rel =>
                refine ⟨k + 1, ?_, ?_, ?_, Hp3.out, Hc3.out, ?_⟩
                · rw [HN.out]; go_num
                · intro j hj
                  rcases Nat.lt_succ_iff_lt_or_eq.1 hj with c | c
                  · exact HK.out j c
                  · rw [c]; exact (count_lt p n k hn).1 hcnt
                · exact Nat.le_trans hW hg3
                · rw [frags_succ, HX.out, hmf]; exact hJ3
              case measure => simp [intOf]; omega
            · gi_wp2
              refine bodyPost_ret (results_none rfl _ _ _) rfl ?_
              exact ⟨⟨_, rfl⟩, .inr ⟨_, trivial, hJx3⟩⟩
    · have HE : Hid (k = count p n) := Lib.hid (count_eq p n k hn (by omega) HK.out)
      generalize n * k = at0 at *
      gi_wp2
      go_end0
      exact ⟨⟨_, rfl⟩, .inl ⟨_, rfl, by rw [← HE.out]; exact hJs⟩⟩
end Go.Proofs.YtpiohahfdekmhaaDoor.Ip
