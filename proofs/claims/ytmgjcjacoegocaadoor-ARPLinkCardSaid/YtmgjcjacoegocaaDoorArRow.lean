/-
  Rows of structs in memory, for any encoding of the elements; rows of ARP messages and of held packets; SameArps, SameHeld.
-/
import Derived.Test.YtmgjcjacoegocaaDoorAr0
import Derived.Laws.StructEq
import Derived.RegionTactic
import Derived.LoopTactic
import Derived.Deep.Cut
import Derived.Deep.DeepCutAuto
import Derived.BigQuiet
import Derived.WalkMore
import Derived.WalkKit
namespace Go.Proofs.YtmgjcjacoegocaaDoor.Ar
set_option maxRecDepth 100000
open Go.RowKit Go.Proofs.YtmgjcjacoegocaaDoor.Wire

theorem below_drewN {n : Nat} {a w : World} (h : Below n a w) (k : Nat) : Below n a (w.drewN k) := ⟨h.os, h.tape, h.output, h.size, h.block⟩
section
variable {α : Type}
theorem encs_length (k : Nat) (enc : α → List Value) (hk : ∀ x, (enc x).length = k) (l : List α) : (l.flatMap enc).length = l.length * k := by
  induction l with
  | nil => simp
  | cons a l ih => simp [ih, hk, Nat.succ_mul]; omega
theorem encs_at (k : Nat) (enc : α → List Value) (hk : ∀ x, (enc x).length = k) : ∀ (l : List α) (i r : Nat) (x : α), l[i]? = some x → r < k → (l.flatMap enc)[i * k + r]? = (enc x)[r]?
  | [], i, r, x, h, _ => by simp at h
  | y :: l, 0, r, x, h, hr => by
    simp at h; subst h
    rw [List.flatMap_cons, List.getElem?_append_left (by rw [hk]; omega)]; simp
  | y :: l, i + 1, r, x, h, hr => by
    rw [List.flatMap_cons, List.getElem?_append_right (by rw [hk, Nat.succ_mul]; omega)]
    have e : (i + 1) * k + r - (enc y).length = i * k + r := by rw [hk, Nat.succ_mul]; omega
    rw [e]
    exact encs_at k enc hk l i r x (by simpa using h) hr
/-- a row of elements of k cells each -/
def SRow (T : TypeId) (k : Nat) (enc : α → List Value) (W : World) (lo : Nat) (A : Option Addr) (c : Nat) (l : List α) : Prop := W.ownsRow lo T k (.slice A l.length c) l.length (l.flatMap enc)
variable {T : TypeId} {k : Nat} {enc : α → List Value} {W W' : World} {lo : Nat} {A : Option Addr} {c : Nat} {l : List α}
theorem SRow.addr (h : SRow T k enc W lo A c l) (hl : 0 < l.length) : ∃ g, A = some ⟨g, 0, none⟩ ∧ lo ≤ g := by
  rcases h.2 with ⟨e, h0⟩ | ⟨g, cap, cur, e, h1, -⟩
  · omega
  · injection e with e1 e2 e3
    exact ⟨g, e1, h1⟩
theorem SRow.cell (h : SRow T k enc W lo A c l) (hk : ∀ x, (enc x).length = k) {g : Nat} (hA : A = some ⟨g, 0, none⟩) {i : Nat} {x : α} (hi : l[i]? = some x) {r : Nat} {u : Value} (hr : r < k) (hu : (enc x)[r]? = some u) : W.cell? ⟨g, i * k + r, none⟩ = some u := by
  subst hA
  have := World.ownsRow.cells h rfl (i * k + r) u (by rw [encs_at k enc hk l i r x hi hr]; exact hu)
  have e : (⟨g, 0, none⟩ : Addr).add (i * k + r) = ⟨g, i * k + r, none⟩ := by unfold Addr.add; split <;> simp_all
  rw [e] at this; exact this
theorem SRow.kept (h : SRow T k enc W lo A c l) (hk : ∀ a, A = some a → W'.heap[a.block]? = W.heap[a.block]?) : SRow T k enc W' lo A c l := by
  refine ⟨h.1, ?_⟩
  rcases h.2 with q | ⟨g, cap, cur, e, q1, q2, q3⟩
  · exact .inl q
  · injection e with e1 e2 e3
    subst e1
    exact .inr ⟨g, cap, cur, by rw [e3], q1, (hk _ rfl).trans q2, q3⟩
theorem SRow.bk (h : SRow T k enc W lo A c l) {a : Addr} (e : A = some a) : lo ≤ a.block ∧ a.block < W.heap.size := by
  rcases h.2 with ⟨q, -⟩ | ⟨g, cap, cur, q, q1, q2, -⟩
  · injection q with q1; rw [q1] at e; cases e
  · injection q with q3; rw [q3] at e; cases e; exact ⟨q1, blk_lt q2⟩
theorem SRow.below (h : SRow T k enc W lo A c l) (hb : Below W.heap.size W W') : SRow T k enc W' lo A c l := h.kept fun _ e => hb.block _ (h.bk e).2
theorem SRow.mono (h : SRow T k enc W lo A c l) {lo' : Nat} (hl : lo' ≤ lo) : SRow T k enc W lo' A c l := by
  refine ⟨h.1, ?_⟩
  rcases h.2 with q | ⟨g, cap, cur, e, q1, q2⟩
  · exact .inl q
  · exact .inr ⟨g, cap, cur, e, Nat.le_trans hl q1, q2⟩
theorem SRow.nil (T : TypeId) (k : Nat) (enc : α → List Value) (W : World) (lo : Nat) : SRow T k enc W lo none 0 [] := ⟨by simp, .inl ⟨rfl, rfl⟩⟩
theorem SRow.cap (h : SRow T k enc W lo A c l) : l.length ≤ c := by
  rcases h.2 with ⟨e, h0⟩ | ⟨g, cap, cur, e, q1, q2, q3, q4, q5, q6⟩
  · omega
  · injection e with e1 e2 e3; omega
/-- a new block that holds the row -/
theorem SRow.new {g : Nat} (hlo : lo ≤ g) (hk : ∀ x, (enc x).length = k) {cur : Array Value} (h : W.heap[g]? = some (.cells cur T (0, 0))) (e : cur.toList = l.flatMap enc) (hl : l.length ≤ maxLen) : SRow T k enc W lo (some ⟨g, 0, none⟩) l.length l := by
  have hs : cur.size = l.length * k := by rw [← Array.length_toList, e, encs_length k enc hk]
  exact ⟨encs_length k enc hk l, .inr ⟨g, l.length, cur, rfl, hlo, h, Nat.le_refl _, hl, hs, by rw [← hs, ← Array.length_toList, List.take_length, e]⟩⟩
end
abbrev tyAm : TypeId := 52
abbrev tyHp : TypeId := 62
abbrev MRow (W : World) (lo : Nat) (A : Option Addr) (c : Nat) (l : List Am) : Prop := SRow 52 5 Am.cells W lo A c l
abbrev HRow (W : World) (lo : Nat) (A : Option Addr) (c : Nat) (l : List Hp) : Prop := SRow 62 3 Hp.cells W lo A c l
theorem amk (a : Am) : a.cells.length = 5 := rfl
theorem hpk (a : Hp) : a.cells.length = 3 := rfl
theorem MRow.cells {W : World} {lo g c : Nat} {l : List Am} (h : MRow W lo (some ⟨g, 0, none⟩) c l) {i : Nat} {p : Am} (hi : l[i]? = some p) :
    W.cell? ⟨g, i * 5, none⟩ = some (.int .i64 p.op) ∧ W.cell? ⟨g, i * 5 + 1, none⟩ = some (.int .i64 p.f) ∧ W.cell? ⟨g, i * 5 + 2, none⟩ = some (.int .i64 p.fm) ∧ W.cell? ⟨g, i * 5 + 3, none⟩ = some (.int .i64 p.t) ∧ W.cell? ⟨g, i * 5 + 4, none⟩ = some (.int .i64 p.tm) :=
  ⟨h.cell amk rfl hi (r := 0) (by omega) rfl, h.cell amk rfl hi (r := 1) (by omega) rfl, h.cell amk rfl hi (r := 2) (by omega) rfl, h.cell amk rfl hi (r := 3) (by omega) rfl, h.cell amk rfl hi (r := 4) (by omega) rfl⟩
theorem HRow.cells {W : World} {lo g c : Nat} {l : List Hp} (h : HRow W lo (some ⟨g, 0, none⟩) c l) {i : Nat} {p : Hp} (hi : l[i]? = some p) :
    W.cell? ⟨g, i * 3, none⟩ = some (.int .i64 p.to_) ∧ W.cell? ⟨g, i * 3 + 1, none⟩ = some (.int .i64 p.mac) ∧ W.cell? ⟨g, i * 3 + 2, none⟩ = some (.string p.s) :=
  ⟨h.cell hpk rfl hi (r := 0) (by omega) rfl, h.cell hpk rfl hi (r := 1) (by omega) rfl, h.cell hpk rfl hi (r := 2) (by omega) rfl⟩
def amEqB (p q : Am) : Bool := p.op == q.op && p.f == q.f && p.fm == q.fm && p.t == q.t && p.tm == q.tm
theorem amEqB_iff (p q : Am) : amEqB p q = true ↔ p = q := by
  obtain ⟨a, b, c, d, e⟩ := p; obtain ⟨a', b', c', d', e'⟩ := q
  simp [amEqB, and_assoc]
theorem eqAm (p q : Am) : ∀ w : World, (Op.equalIn 10000 52 (.agg #[.int .i64 p.op, .int .i64 p.f, .int .i64 p.fm, .int .i64 p.t, .int .i64 p.tm]) (.agg #[.int .i64 q.op, .int .i64 q.f, .int .i64 q.fm, .int .i64 q.t, .int .i64 q.tm])).run Tryd.prog w = .ok (amEqB p q) w := by
  intro w
  unfold amEqB
  go_simp
  by_cases h0 : p.op = q.op
  case neg => rw [if_neg h0]; simp [h0]
  rw [if_pos h0]
  by_cases h1 : p.f = q.f
  case neg => rw [if_neg h1]; simp [h1]
  rw [if_pos h1]
  by_cases h2 : p.fm = q.fm
  case neg => rw [if_neg h2]; simp [h2]
  rw [if_pos h2]
  by_cases h3 : p.t = q.t
  case neg => rw [if_neg h3]; simp [h3]
  rw [if_pos h3]
  by_cases h4 : p.tm = q.tm
  case neg => rw [if_neg h4]; simp [h4]
  rw [if_pos h4]
  simp [h0, h1, h2, h3, h4]
def hpEqB (p q : Hp) : Bool := p.to_ == q.to_ && p.mac == q.mac && p.s.toList == q.s.toList
theorem hpEqB_iff (p q : Hp) : hpEqB p q = true ↔ p = q := by
  obtain ⟨a, b, c⟩ := p; obtain ⟨a', b', c'⟩ := q
  simp only [hpEqB, Bool.and_eq_true, beq_iff_eq, Hp.mk.injEq, and_assoc]
  constructor
  · rintro ⟨h1, h2, h3⟩
    refine ⟨h1, h2, ?_⟩
    rw [ByteArray.toList_eq, ByteArray.toList_eq] at h3
    exact ByteArray.ext (Array.ext' h3)
  · rintro ⟨h1, h2, h3⟩
    exact ⟨h1, h2, by rw [h3]⟩
instance : DecidableEq Hp := fun p q => decidable_of_iff (hpEqB p q = true) (hpEqB_iff p q)
theorem eqHp (p q : Hp) : ∀ w : World, (Op.equalIn 10000 62 (.agg #[.int .i64 p.to_, .int .i64 p.mac, .string p.s]) (.agg #[.int .i64 q.to_, .int .i64 q.mac, .string q.s])).run Tryd.prog w = .ok (hpEqB p q) w := by
  intro w
  unfold hpEqB
  go_simp
  by_cases h0 : p.to_ = q.to_
  case neg => rw [if_neg h0]; simp [h0]
  rw [if_pos h0]
  by_cases h1 : p.mac = q.mac
  case neg => rw [if_neg h1]; simp [h1]
  rw [if_pos h1]
  by_cases h2 : p.s.toList = q.s.toList
  case neg => rw [if_neg h2]; simp [h2]
  rw [if_pos h2]
  simp [h0, h1, h2]
set_option maxHeartbeats 4000000 in
theorem sameArps_any (l1 l2 : List Am) (lo1 lo2 : Nat) (A1 A2 : Option Addr) (c1 c2 : Nat) (w : World) (h1 : MRow w lo1 A1 c1 l1) (h2 : MRow w lo2 A2 c2 l2) (hl : l1.length ≤ 1000 ∧ l2.length ≤ 1000) :
    Calls Tryd.prog 41 #[.slice A1 l1.length c1, .slice A2 l2.length c2] w fun x w' => x = .returned (.bool (decide (l1 = l2))) ∧ Below w.heap.size w w' := by
  by_cases hne : l1.length = l2.length
  case neg =>
    have e1 : ((l1.length : Int) == (l2.length : Int)) = false := by rw [beq_eq_false_iff_ne]; omega
    have e2 : decide (l1 = l2) = false := decide_eq_false (fun q => hne (by rw [q]))
    rw [e2]
    go_enter Tryd.func41, Tryd.ntmps41
    go_wp2_with fail
    go_ret
    exact ⟨rfl, Below.refl _ _⟩
  case pos =>
    have HR1 := Lib.hid h1; have HR2 := Lib.hid h2; clear h1 h2
    generalize hn : l1.length = n at *
    rw [← hne]
    have e1 : ((n : Int) == (n : Int)) = true := by simp
    go_enter Tryd.func41, Tryd.ntmps41
    go_wp2_with fail
    go_loopw [5] (fun i wr => ∃ k : Nat, k ≤ n ∧ i = .int .i64 (k : Int) ∧ Below w.heap.size w wr ∧ ∀ j, j < k → l1[j]? = l2[j]?) (fun i wr => n - (Go.RowKit.intOf i).toNat)
    case atStart => exact ⟨0, Nat.zero_le _, rfl, Below.refl _ _, fun j hj => absurd hj (Nat.not_lt_zero _)⟩
    case round =>
      obtain ⟨k, hk, rfl, hb, hpre⟩ := hrel
      have HB := Lib.hid hb; have HP := Lib.hid hpre; clear hb hpre
      by_cases hlt : k < n
      · have hkl : decide ((k : Int) < (n : Int)) = true := by simp; omega
        have hk0 : (0 : Int) ≤ (k : Int) := by omega
        obtain ⟨p, hp⟩ : ∃ p, l1[k]? = some p := ⟨_, List.getElem?_eq_getElem (by omega)⟩
        obtain ⟨q, hq⟩ : ∃ q, l2[k]? = some q := ⟨_, List.getElem?_eq_getElem (by omega)⟩
        obtain ⟨g1, rfl, -⟩ := HR1.out.addr (by omega)
        obtain ⟨g2, rfl, -⟩ := HR2.out.addr (by omega)
        obtain ⟨a0, a1, a2, a3, a4⟩ := MRow.cells (HR1.out.below HB.out) hp
        obtain ⟨b0, b1, b2, b3, b4⟩ := MRow.cells (HR2.out.below HB.out) hq
        have heq := eqAm p q
        obtain ⟨b, hbb⟩ : ∃ b, amEqB p q = b := ⟨_, rfl⟩
        rw [hbb] at heq
        go_upto_region 6 with fail
        go_quiet (fail)
        cases b with
        | true =>
          have hpq := (amEqB_iff p q).1 hbb
          subst hpq
          go_wp2_with fail
          go_roundw
          case rel =>
            refine ⟨k + 1, by omega, by go_num, by exact below_drewN HB.out _, fun j hj => ?_⟩
            rcases Nat.lt_or_ge j k with r | r
            · exact HP.out j r
            · obtain rfl : j = k := by omega
              rw [hp, hq]
          case measure => simp [Go.RowKit.intOf]; omega
        | false =>
          go_wp2_with fail
          go_ret
          refine ⟨?_, by exact below_drewN HB.out _⟩
          have : l1 ≠ l2 := fun e => by
            subst e
            rw [hp] at hq; cases hq
            rw [(amEqB_iff p p).2 rfl] at hbb; cases hbb
          rw [decide_eq_false this]; rfl
      · obtain rfl : k = n := by omega
        have hkl : decide ((k : Int) < (k : Int)) = false := by simp
        go_wp2_with fail
        go_ret
        refine ⟨?_, HB.out⟩
        have : l1 = l2 := by
          apply List.ext_getElem?
          intro j
          rcases Nat.lt_or_ge j k with r | r
          · exact HP.out j r
          · rw [List.getElem?_eq_none (by omega), List.getElem?_eq_none (by omega)]
        rw [decide_eq_true this]; rfl
set_option maxHeartbeats 4000000 in
theorem sameHeld_any (l1 l2 : List Hp) (lo1 lo2 : Nat) (A1 A2 : Option Addr) (c1 c2 : Nat) (w : World) (h1 : HRow w lo1 A1 c1 l1) (h2 : HRow w lo2 A2 c2 l2) (hl : l1.length ≤ 1000 ∧ l2.length ≤ 1000) :
    Calls Tryd.prog 42 #[.slice A1 l1.length c1, .slice A2 l2.length c2] w fun x w' => x = .returned (.bool (decide (l1 = l2))) ∧ Below w.heap.size w w' := by
  by_cases hne : l1.length = l2.length
  case neg =>
    have e1 : ((l1.length : Int) == (l2.length : Int)) = false := by rw [beq_eq_false_iff_ne]; omega
    have e2 : decide (l1 = l2) = false := decide_eq_false (fun q => hne (by rw [q]))
    rw [e2]
    go_enter Tryd.func42, Tryd.ntmps42
    go_wp2_with fail
    go_ret
    exact ⟨rfl, Below.refl _ _⟩
  case pos =>
    have HR1 := Lib.hid h1; have HR2 := Lib.hid h2; clear h1 h2
    generalize hn : l1.length = n at *
    rw [← hne]
    have e1 : ((n : Int) == (n : Int)) = true := by simp
    go_enter Tryd.func42, Tryd.ntmps42
    go_wp2_with fail
    go_loopw [5] (fun i wr => ∃ k : Nat, k ≤ n ∧ i = .int .i64 (k : Int) ∧ Below w.heap.size w wr ∧ ∀ j, j < k → l1[j]? = l2[j]?) (fun i wr => n - (Go.RowKit.intOf i).toNat)
    case atStart => exact ⟨0, Nat.zero_le _, rfl, Below.refl _ _, fun j hj => absurd hj (Nat.not_lt_zero _)⟩
    case round =>
      obtain ⟨k, hk, rfl, hb, hpre⟩ := hrel
      have HB := Lib.hid hb; have HP := Lib.hid hpre; clear hb hpre
      by_cases hlt : k < n
      · have hkl : decide ((k : Int) < (n : Int)) = true := by simp; omega
        have hk0 : (0 : Int) ≤ (k : Int) := by omega
        obtain ⟨p, hp⟩ : ∃ p, l1[k]? = some p := ⟨_, List.getElem?_eq_getElem (by omega)⟩
        obtain ⟨q, hq⟩ : ∃ q, l2[k]? = some q := ⟨_, List.getElem?_eq_getElem (by omega)⟩
        obtain ⟨g1, rfl, -⟩ := HR1.out.addr (by omega)
        obtain ⟨g2, rfl, -⟩ := HR2.out.addr (by omega)
        obtain ⟨a0, a1, a2⟩ := HRow.cells (HR1.out.below HB.out) hp
        obtain ⟨b0, b1, b2⟩ := HRow.cells (HR2.out.below HB.out) hq
        have heq := eqHp p q
        obtain ⟨b, hbb⟩ : ∃ b, hpEqB p q = b := ⟨_, rfl⟩
        rw [hbb] at heq
        go_upto_region 6 with fail
        go_quiet (fail)
        cases b with
        | true =>
          have hpq := (hpEqB_iff p q).1 hbb
          subst hpq
          go_wp2_with fail
          go_roundw
          case rel =>
            refine ⟨k + 1, by omega, by go_num, by exact below_drewN HB.out _, fun j hj => ?_⟩
            rcases Nat.lt_or_ge j k with r | r
            · exact HP.out j r
            · obtain rfl : j = k := by omega
              rw [hp, hq]
          case measure => simp [Go.RowKit.intOf]; omega
        | false =>
          go_wp2_with fail
          go_ret
          refine ⟨?_, by exact below_drewN HB.out _⟩
          have : l1 ≠ l2 := fun e => by
            subst e
            rw [hp] at hq; cases hq
            rw [(hpEqB_iff p p).2 rfl] at hbb; cases hbb
          rw [decide_eq_false this]; rfl
      · obtain rfl : k = n := by omega
        have hkl : decide ((k : Int) < (k : Int)) = false := by simp
        go_wp2_with fail
        go_ret
        refine ⟨?_, HB.out⟩
        have : l1 = l2 := by
          apply List.ext_getElem?
          intro j
          rcases Nat.lt_or_ge j k with r | r
          · exact HP.out j r
          · rw [List.getElem?_eq_none (by omega), List.getElem?_eq_none (by omega)]
        rw [decide_eq_true this]; rfl
end Go.Proofs.YtmgjcjacoegocaaDoor.Ar
