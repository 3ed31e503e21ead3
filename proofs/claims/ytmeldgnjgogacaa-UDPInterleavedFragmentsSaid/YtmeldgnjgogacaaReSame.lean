/-
  Rows of packets; equality of packets; the contract of the reference's Same.
-/
import Derived.Test.YtmeldgnjgogacaaRows
import Derived.Test.YtmeldgnjgogacaaFrag0
import Derived.Test.YtmeldgnjgogacaaBase1
import Derived.Laws.StructEq
import Derived.RegionTactic
import Derived.LoopTactic
import Derived.Deep.Cut
import Derived.Deep.DeepCutAuto
import Derived.BigQuiet
import Derived.WalkMore
import Derived.WalkKit
namespace Go.Proofs.Ytmeldgnjgogacaa.Re
set_option maxRecDepth 100000
open Go.RowKit Go.Proofs.Ytmeldgnjgogacaa.Wire
open Go.Proofs.Ytmeldgnjgogacaa.Ip (Pk)

def pkEqB (p q : Pk) : Bool := p.f == q.f && p.t == q.t && p.pr == q.pr && p.ttl == q.ttl && p.id == q.id && p.df == q.df && p.mf == q.mf && p.off == q.off && p.s.toList == q.s.toList
theorem pkEqB_iff (p q : Pk) : pkEqB p q = true ↔ p = q := by
  obtain ⟨f, t, pr, ttl, id, df, mf, off, s⟩ := p
  obtain ⟨f', t', pr', ttl', id', df', mf', off', s'⟩ := q
  simp only [pkEqB, Bool.and_eq_true, beq_iff_eq, Pk.mk.injEq]
  constructor
  · rintro ⟨⟨⟨⟨⟨⟨⟨⟨a, b⟩, c⟩, d⟩, e⟩, g⟩, h⟩, i⟩, j⟩
    refine ⟨a, b, c, d, e, g, h, i, ?_⟩
    rw [ByteArray.toList_eq, ByteArray.toList_eq] at j
    exact ByteArray.ext (Array.ext' j)
  · rintro ⟨a, b, c, d, e, g, h, i, j⟩
    exact ⟨⟨⟨⟨⟨⟨⟨⟨a, b⟩, c⟩, d⟩, e⟩, g⟩, h⟩, i⟩, by rw [j]⟩
instance : DecidableEq Pk := fun p q => decidable_of_iff (pkEqB p q = true) (pkEqB_iff p q)
set_option maxHeartbeats 1000000 in
theorem eqPk (p q : Pk) : ∀ w : World, (Op.equalIn 10000 30 (.agg #[.int .i64 p.f, .int .i64 p.t, .int .i64 p.pr, .int .i64 p.ttl, .int .i64 p.id, .bool p.df, .bool p.mf, .int .i64 p.off, .string p.s]) (.agg #[.int .i64 q.f, .int .i64 q.t, .int .i64 q.pr, .int .i64 q.ttl, .int .i64 q.id, .bool q.df, .bool q.mf, .int .i64 q.off, .string q.s])).run Try.prog w = .ok (pkEqB p q) w := by
  intro w
  unfold pkEqB
  go_simp
  by_cases h0 : p.f = q.f
  case neg => rw [if_neg h0]; simp [h0]
  rw [if_pos h0]
  by_cases h1 : p.t = q.t
  case neg => rw [if_neg h1]; simp [h1]
  rw [if_pos h1]
  by_cases h2 : p.pr = q.pr
  case neg => rw [if_neg h2]; simp [h2]
  rw [if_pos h2]
  by_cases h3 : p.ttl = q.ttl
  case neg => rw [if_neg h3]; simp [h3]
  rw [if_pos h3]
  by_cases h4 : p.id = q.id
  case neg => rw [if_neg h4]; simp [h4]
  rw [if_pos h4]
  by_cases h5 : p.df = q.df
  case neg => rw [if_neg h5]; simp [h5]
  rw [if_pos h5]
  by_cases h6 : p.mf = q.mf
  case neg => rw [if_neg h6]; simp [h6]
  rw [if_pos h6]
  by_cases h7 : p.off = q.off
  case neg => rw [if_neg h7]; simp [h7]
  rw [if_pos h7]
  by_cases h8 : p.s.toList = q.s.toList
  case neg => rw [if_neg h8]; simp [h8]
  rw [if_pos h8]
  simp [h0, h1, h2, h3, h4, h5, h6, h7, h8]
theorem below_drewN {n : Nat} {a w : World} (h : Below n a w) (k : Nat) : Below n a (w.drewN k) := ⟨h.os, h.tape, h.output, h.size, h.block⟩
def pkC (l : List Pk) : List Value := l.flatMap fun p => [.int .i64 p.f, .int .i64 p.t, .int .i64 p.pr, .int .i64 p.ttl, .int .i64 p.id, .bool p.df, .bool p.mf, .int .i64 p.off, .string p.s]
theorem pkC_length (l : List Pk) : (pkC l).length = l.length * 9 := by
  unfold pkC
  induction l with
  | nil => rfl
  | cons a l ih => simp [ih]; omega
theorem pkC_at : ∀ (l : List Pk) (i r : Nat) (p : Pk), l[i]? = some p → r < 9 → (pkC l)[i * 9 + r]? = ([.int .i64 p.f, .int .i64 p.t, .int .i64 p.pr, .int .i64 p.ttl, .int .i64 p.id, .bool p.df, .bool p.mf, .int .i64 p.off, .string p.s] : List Value)[r]?
  | [], i, r, p, h, _ => by simp at h
  | x :: l, 0, r, p, h, hr => by
    simp at h; subst h
    show (([.int .i64 x.f, .int .i64 x.t, .int .i64 x.pr, .int .i64 x.ttl, .int .i64 x.id, .bool x.df, .bool x.mf, .int .i64 x.off, .string x.s] : List Value) ++ pkC l)[0 * 9 + r]? = _
    rw [List.getElem?_append_left (by simp; omega)]; simp
  | x :: l, i + 1, r, p, h, hr => by
    show (([.int .i64 x.f, .int .i64 x.t, .int .i64 x.pr, .int .i64 x.ttl, .int .i64 x.id, .bool x.df, .bool x.mf, .int .i64 x.off, .string x.s] : List Value) ++ pkC l)[(i + 1) * 9 + r]? = _
    rw [List.getElem?_append_right (by simp; omega)]
    have e : (i + 1) * 9 + r - ([.int .i64 x.f, .int .i64 x.t, .int .i64 x.pr, .int .i64 x.ttl, .int .i64 x.id, .bool x.df, .bool x.mf, .int .i64 x.off, .string x.s] : List Value).length = i * 9 + r := by simp; omega
    rw [e]
    exact pkC_at l i r p (by simpa using h) hr
def PRow (W : World) (lo : Nat) (A : Option Addr) (c : Nat) (l : List Pk) : Prop := W.ownsRow lo 30 9 (.slice A l.length c) l.length (pkC l)
theorem PRow.addr {W : World} {lo : Nat} {A : Option Addr} {c : Nat} {l : List Pk} (h : PRow W lo A c l) (hl : 0 < l.length) : ∃ g, A = some ⟨g, 0, none⟩ ∧ lo ≤ g := by
  rcases h.2 with ⟨e, h0⟩ | ⟨g, cap, cur, e, h1, -⟩
  · omega
  · injection e with e1 e2 e3
    exact ⟨g, e1, h1⟩
theorem PRow.cells {W : World} {lo g c : Nat} {l : List Pk} (h : PRow W lo (some ⟨g, 0, none⟩) c l) {i : Nat} {p : Pk} (hi : l[i]? = some p) :
    W.cell? ⟨g, i * 9, none⟩ = some (.int .i64 p.f) ∧ W.cell? ⟨g, i * 9 + 1, none⟩ = some (.int .i64 p.t) ∧ W.cell? ⟨g, i * 9 + 2, none⟩ = some (.int .i64 p.pr) ∧ W.cell? ⟨g, i * 9 + 3, none⟩ = some (.int .i64 p.ttl) ∧ W.cell? ⟨g, i * 9 + 4, none⟩ = some (.int .i64 p.id) ∧ W.cell? ⟨g, i * 9 + 5, none⟩ = some (.bool p.df) ∧ W.cell? ⟨g, i * 9 + 6, none⟩ = some (.bool p.mf) ∧ W.cell? ⟨g, i * 9 + 7, none⟩ = some (.int .i64 p.off) ∧ W.cell? ⟨g, i * 9 + 8, none⟩ = some (.string p.s) := by
  have hc : ∀ r u, r < 9 → ([.int .i64 p.f, .int .i64 p.t, .int .i64 p.pr, .int .i64 p.ttl, .int .i64 p.id, .bool p.df, .bool p.mf, .int .i64 p.off, .string p.s] : List Value)[r]? = some u → W.cell? ⟨g, i * 9 + r, none⟩ = some u := fun r u hr hu => by
    have := World.ownsRow.cells h rfl (i * 9 + r) u (by rw [pkC_at l i r p hi hr]; exact hu)
    have e : (⟨g, 0, none⟩ : Addr).add (i * 9 + r) = ⟨g, i * 9 + r, none⟩ := by unfold Addr.add; split <;> simp_all
    rw [e] at this; exact this
  exact ⟨hc 0 _ (by omega) rfl, hc 1 _ (by omega) rfl, hc 2 _ (by omega) rfl, hc 3 _ (by omega) rfl, hc 4 _ (by omega) rfl, hc 5 _ (by omega) rfl, hc 6 _ (by omega) rfl, hc 7 _ (by omega) rfl, hc 8 _ (by omega) rfl⟩
theorem PRow.kept {W W' : World} {lo : Nat} {A : Option Addr} {c : Nat} {l : List Pk} (h : PRow W lo A c l) (hk : ∀ a, A = some a → W'.heap[a.block]? = W.heap[a.block]?) : PRow W' lo A c l := by
  refine ⟨h.1, ?_⟩
  rcases h.2 with q | ⟨g, cap, cur, e, q1, q2, q3⟩
  · exact .inl q
  · injection e with e1 e2 e3
    subst e1
    exact .inr ⟨g, cap, cur, by rw [e3], q1, (hk _ rfl).trans q2, q3⟩
theorem PRow.lt {W : World} {lo : Nat} {a : Addr} {c : Nat} {l : List Pk} (h : PRow W lo (some a) c l) : a.block < W.heap.size := by
  rcases h.2 with ⟨e, h0⟩ | ⟨g, cap, cur, e, q1, q2, q3⟩
  · cases e
  · injection e with e1 e2 e3
    cases e1
    exact blk_lt q2
theorem PRow.below {W W' : World} {lo : Nat} {A : Option Addr} {c : Nat} {l : List Pk} (h : PRow W lo A c l) (hb : Below W.heap.size W W') : PRow W' lo A c l := h.kept fun a e => by subst e; exact hb.block _ h.lt
theorem PRow.nil (W : World) (lo : Nat) : PRow W lo none 0 [] := ⟨rfl, .inl ⟨rfl, rfl⟩⟩
set_option maxHeartbeats 4000000 in
theorem same_any (l1 l2 : List Pk) (lo1 lo2 : Nat) (A1 A2 : Option Addr) (c1 c2 : Nat) (w : World) (h1 : PRow w lo1 A1 c1 l1) (h2 : PRow w lo2 A2 c2 l2) (hl : l1.length ≤ 1000 ∧ l2.length ≤ 1000) :
    Calls Try.prog 18 #[.slice A1 l1.length c1, .slice A2 l2.length c2] w fun x w' => x = .returned (.bool (decide (l1 = l2))) ∧ Below w.heap.size w w' := by
  by_cases hne : l1.length = l2.length
  case neg =>
    have e1 : ((l1.length : Int) == (l2.length : Int)) = false := by rw [beq_eq_false_iff_ne]; omega
    have e2 : decide (l1 = l2) = false := decide_eq_false (fun q => hne (by rw [q]))
    rw [e2]
    go_enter Try.func18, Try.ntmps18
    go_wp2_with fail
    go_ret
    exact ⟨rfl, Below.refl _ _⟩
  case pos =>
    have hc : c1 = c1 := rfl
    have HR1 := Lib.hid h1; have HR2 := Lib.hid h2; clear h1 h2 hc
    generalize hn : l1.length = n at *
    rw [← hne]
    have e1 : ((n : Int) == (n : Int)) = true := by simp
    go_enter Try.func18, Try.ntmps18
    go_wp2_with fail
    go_loopw [5] (fun i wr => ∃ k : Nat, k ≤ n ∧ i = .int .i64 (k : Int) ∧ Below w.heap.size w wr ∧ ∀ j, j < k → l1[j]? = l2[j]?) (fun i wr => n - (Go.RowKit.intOf i).toNat)
    case atStart => exact ⟨0, Nat.zero_le _, rfl, Below.refl _ _, fun j hj => absurd hj (Nat.not_lt_zero _)⟩
    case round =>
      obtain ⟨k, hk, rfl, hb, hpre⟩ := hrel
      have HB := Lib.hid hb; have HP := Lib.hid hpre; clear hb hpre
      by_cases hlt : k < n
      · have hkl : decide ((k : Int) < (n : Int)) = true := by simp; omega
        have hk0 : (0 : Int) ≤ (k : Int) := by omega
        obtain ⟨p, hp⟩ : ∃ p, l1[k]? = some p := ⟨_, List.getElem?_eq_getElem (by omega)⟩
        obtain ⟨q, hq⟩ : ∃ q, l2[k]? = some q := ⟨_, List.getElem?_eq_getElem (by omega)⟩
        obtain ⟨g1, rfl, -⟩ := HR1.out.addr (by omega)
        obtain ⟨g2, rfl, -⟩ := HR2.out.addr (by omega)
        obtain ⟨a0, a1, a2, a3, a4, a5, a6, a7, a8⟩ := (HR1.out.below HB.out).cells hp
        obtain ⟨b0, b1, b2, b3, b4, b5, b6, b7, b8⟩ := (HR2.out.below HB.out).cells hq
        have heq := eqPk p q
        obtain ⟨b, hbb⟩ : ∃ b, pkEqB p q = b := ⟨_, rfl⟩
        rw [hbb] at heq
        go_upto_region 6 with fail
        go_quiet (fail)
        cases b with
        | true =>
          have hpq := (pkEqB_iff p q).1 hbb
          subst hpq
          go_wp2_with fail
          go_roundw
          case rel =>
            refine ⟨k + 1, by omega, by go_num, by exact below_drewN HB.out _, fun j hj => ?_⟩
            rcases Nat.lt_or_ge j k with r | r
            · exact HP.out j r
            · obtain rfl : j = k := by omega
              rw [hp, hq]
          case measure => simp [Go.RowKit.intOf]; omega
        | false =>
          go_wp2_with fail
          go_ret
          refine ⟨?_, by exact below_drewN HB.out _⟩
          have : l1 ≠ l2 := fun e => by
            subst e
            rw [hp] at hq; cases hq
            rw [(pkEqB_iff p p).2 rfl] at hbb; cases hbb
          rw [decide_eq_false this]; rfl
      · obtain rfl : k = n := by omega
        have hkl : decide ((k : Int) < (k : Int)) = false := by simp
        go_wp2_with fail
        go_ret
        refine ⟨?_, HB.out⟩
        have : l1 = l2 := by
          apply List.ext_getElem?
          intro j
          rcases Nat.lt_or_ge j k with r | r
          · exact HP.out j r
          · rw [List.getElem?_eq_none (by omega), List.getElem?_eq_none (by omega)]
        rw [decide_eq_true this]; rfl
end Go.Proofs.Ytmeldgnjgogacaa.Re
