/-
  The reference's table of path MTUs in memory: Valid (of addresses), Size.
-/
import Derived.Test.YtmcfllogcmnnoaaDoorSRows
import Derived.Test.YtmcfllogcmnnoaaDoorPath
import Derived.Deep.DeepCutAuto
import Derived.LoopTactic
import Derived.WalkMore
import Derived.WalkKit
import Derived.BigQuiet
namespace Go.Proofs.YtmcfllogcmnnoaaDoor.Ic
set_option maxRecDepth 100000
open Go.RowKit Go.Proofs.YtmcfllogcmnnoaaDoor.Wire Go.Proofs.YtmcfllogcmnnoaaDoor.Rw

def En.row (e : En) : List Value := [.int .i64 e.to, .int .i64 e.size, .int .i64 e.at_]
theorem En.rowLen (e : En) : e.row.length = 3 := rfl
abbrev RPath (W : World) (lo : Nat) (D : Option Addr) (d : Nat) (l : List En) : Prop := ORow 106 3 En.row W lo D d l
/-- the reference's table: the block B2, its row at D -/
structure RefP (W : World) (lo B2 : Nat) (D : Option Addr) (d : Nat) (l : List En) : Prop where
  tab : W.heap[B2]? = some (.cells #[.slice D l.length d] 57 (0, 0))
  row : RPath W lo D d l
section
variable {W W' : World} {lo B2 : Nat} {D : Option Addr} {d : Nat} {l : List En}
theorem RefP.kept (h : RefP W lo B2 D d l) (hk : ∀ q, (q = B2 ∨ BK D q) → W'.heap[q]? = W.heap[q]?) : RefP W' lo B2 D d l := ⟨(hk B2 (.inl rfl)).trans h.tab, h.row.kept (fun a e => hk _ (.inr ⟨a, e, rfl⟩))⟩
theorem RefP.lt (h : RefP W lo B2 D d l) {q : Nat} (hq : q = B2 ∨ BK D q) : q < W.heap.size := by
  rcases hq with rfl | ⟨a, e, rfl⟩
  · exact blk_lt h.tab
  · exact (h.row.bk e).2
theorem RefP.below (h : RefP W lo B2 D d l) (hb : Below W.heap.size W W') : RefP W' lo B2 D d l := h.kept (fun q hq => hb.block q (h.lt hq))
theorem RefP.cells (h : RefP W lo B2 D d l) {i : Nat} {e : En} (hi : l[i]? = some e) : ∃ g off, D = some ⟨g, off, none⟩ ∧ W.cell? ⟨g, off + i * 3, none⟩ = some (.int .i64 e.to) ∧ W.cell? ⟨g, off + i * 3 + 1, none⟩ = some (.int .i64 e.size) ∧ W.cell? ⟨g, off + i * 3 + 2, none⟩ = some (.int .i64 e.at_) := by
  obtain ⟨g, off, hD, c0⟩ := h.row.cell En.rowLen hi (r := 0) (by omega) rfl
  obtain ⟨g1, off1, hD1, c1⟩ := h.row.cell En.rowLen hi (r := 1) (by omega) rfl
  obtain ⟨g2, off2, hD2, c2⟩ := h.row.cell En.rowLen hi (r := 2) (by omega) rfl
  rw [hD] at hD1 hD2
  cases hD1; cases hD2
  exact ⟨g, off, hD, by simpa using c0, c1, c2⟩
theorem RefP.tcell (h : RefP W lo B2 D d l) : W.cell? ⟨B2, 0, none⟩ = some (.slice D l.length d) ∧ W.frozen? ⟨B2, 0, none⟩ = false := cell_of_block (k := 0) h.tab rfl
theorem find_first {p : En → Bool} : ∀ (l : List En) (i : Nat) (e : En), l[i]? = some e → p e = true → (∀ (j : Nat) (x : En), j < i → l[j]? = some x → p x = false) → l.find? p = some e
  | [], i, e, h, _, _ => by simp at h
  | y :: l, 0, e, h, hp, _ => by
    have : y = e := by simpa using h
    subst this
    rw [List.find?_cons, hp]
  | y :: l, i + 1, e, h, hp, hn => by
    rw [List.find?_cons, hn 0 y (by omega) rfl]
    exact find_first l i e (by simpa using h) hp (fun j x hj hx => hn (j + 1) x (by omega) (by simpa using hx))
theorem find_nothing {p : En → Bool} {l : List En} (h : ∀ (j : Nat) (x : En), l[j]? = some x → p x = false) : l.find? p = none := by
  rw [List.find?_eq_none]
  intro x hx
  obtain ⟨j, hj⟩ := List.mem_iff_getElem?.1 hx
  rw [h j x hj]; simp
set_option maxHeartbeats 4000000 in
theorem rsize_ref (now tt mtu : Int) (w : World) (h : RefP w lo B2 D d l) (hk : Kept l) :
    Calls Tryd.prog 34 #[.pointer (some ⟨B2, 0, none⟩), .int .i64 now, .int .i64 tt, .int .i64 mtu] w fun e w' => e = .returned (.int .i64 (rsizeE l now tt mtu)) ∧ w = w' := by
  have HR := Lib.hid h; have HK := Lib.hid hk
  have hl := hk.len
  obtain ⟨t0, -⟩ := h.tcell
  obtain ⟨n, hn⟩ : ∃ n, l.length = n := ⟨_, rfl⟩
  have HN := Lib.hid hn
  rw [hn] at t0 hl
  clear h hk hn
  go_enter Tryd.func34, Tryd.ntmps34
  go_wp2_with fail
  go_loopw [9] (fun iv wr => ∃ k : Nat, k ≤ n ∧ iv = .int .i64 (k : Int) ∧ wr = w ∧ ∀ j x, j < k → l[j]? = some x → (toB tt x && freshB now x) = false) (fun iv _ => n - (Go.RowKit.intOf iv).toNat)
  case atStart => exact ⟨0, by omega, rfl, rfl, fun j x hj => by omega⟩
  case round =>
    obtain ⟨k, hkn, rfl, rfl, hpre⟩ := hrel
    have HP := Lib.hid hpre
    clear hpre
    by_cases hlt : k < n
    · have d1 : decide ((k : Int) < (n : Int)) = true := decide_eq_true (by omega)
      have k0 : (0 : Int) ≤ (k : Int) := by omega
      have k1 : (k : Int) < (n : Int) := by omega
      obtain ⟨e, he⟩ : ∃ e, l[k]? = some e := ⟨_, List.getElem?_eq_getElem (by rw [HN.out]; exact hlt)⟩
      obtain ⟨g, off, rfl, c0, c1, c2⟩ := HR.out.cells he
      have hoke := HK.out.ok e (List.mem_of_getElem? he)
      have hw : IntKind.i64.wrap (e.at_ + 600) = e.at_ + 600 := IntWalk.i64_in _ (by omega)
      have HE := Lib.hid he
      clear he
      by_cases hm : e.to = tt ∧ now < e.at_ + 600
      · have d2 : (e.to == tt) = true := beq_iff_eq.2 hm.1
        have d3 : decide (now < e.at_ + 600) = true := decide_eq_true hm.2
        have hf : Hid (rsizeE l now tt mtu = min mtu e.size) := Lib.hid (by
          unfold rsizeE
          rw [find_first l k e HE.out (by unfold toB freshB; simp [hm]) (fun j x hj hx => HP.out j x hj hx)])
        clear hm
        go_wp2_with fail
        all_goals first | (exfalso; omega) | skip
        all_goals
          go_ret
          exact ⟨ret_int (by rw [hf.out]; omega), rfl⟩
      · have hno : (toB tt e && freshB now e) = false := by
          unfold toB freshB
          simp
          intro q
          have := fun r => hm ⟨q, r⟩
          omega
        have HNO := Lib.hid hno
        have hd : (e.to == tt) = false ∨ ((e.to == tt) = true ∧ decide (now < e.at_ + 600) = false) := by
          by_cases q : e.to = tt
          · exact .inr ⟨beq_iff_eq.2 q, decide_eq_false (fun r => hm ⟨q, r⟩)⟩
          · exact .inl (beq_eq_false_iff_ne.2 q)
        clear hm hno
        rcases hd with d2 | ⟨d2, d3⟩
        all_goals
          go_wp2_with fail
          all_goals first | (exfalso; omega) | skip
          refine ⟨⟨k + 1, by omega, by go_num, trivial, fun j x hj hx => ?_⟩, by simp [Go.RowKit.intOf]; omega⟩
          by_cases q : j = k
          · subst q
            have := HE.out
            rw [hx] at this; cases this
            exact HNO.out
          · exact HP.out j x (by omega) hx
    · obtain rfl : k = n := by omega
      have d1 : decide ((k : Int) < (k : Int)) = false := decide_eq_false (by omega)
      have hf : Hid (rsizeE l now tt mtu = mtu) := Lib.hid (by
        unfold rsizeE
        rw [find_nothing (fun j x hx => HP.out j x (by have := (List.getElem?_eq_some_iff.1 hx).1; rw [HN.out] at this; exact this) hx)])
      go_wp2_with fail
      all_goals first | (exfalso; omega) | skip
      go_ret
      exact ⟨ret_int hf.out.symm, rfl⟩
end
end Go.Proofs.YtmcfllogcmnnoaaDoor.Ic
