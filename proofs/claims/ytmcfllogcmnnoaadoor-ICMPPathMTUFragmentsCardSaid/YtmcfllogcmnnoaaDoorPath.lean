/-
  The table of path MTUs of package icmp: plain laws, its rows in memory, the contracts of its functions.
-/
import Derived.Test.YtmcfllogcmnnoaaDoorRows
import Derived.Test.YtmcfllogcmnnoaaDoorBase1
import Derived.Lib.SliceRun
import Derived.Lib.LazyBuf
import Derived.WalkKit
import Derived.WalkMore
import Derived.Deep.QuietTactic
import Derived.Shelf.Abstract
import Derived.Deep.Cut
import Derived.Deep.RegionLaw
import Derived.Shelf.RegionOpenPlain
import Derived.Deep.AppendLies
namespace Go.Proofs.YtmcfllogcmnnoaaDoor.Ic
set_option maxRecDepth 100000

/-- an entry of the table of path MTUs -/
structure En where
  to : Int
  size : Int
  at_ : Int
instance : DecidableEq En := fun a b => decidable_of_iff (a.to = b.to ∧ a.size = b.size ∧ a.at_ = b.at_) (by cases a; cases b; simp)
def freshB (now : Int) (e : En) : Bool := decide (now < e.at_ + 600)
def toB (to : Int) (e : En) : Bool := decide (e.to = to)
def lowOk (now to size : Int) : Prop := (0 ≤ now ∧ now ≤ 1000000000) ∧ (0 ≤ to ∧ to ≤ 4294967295) ∧ 68 ≤ size ∧ size ≤ 1024
instance (a b c : Int) : Decidable (lowOk a b c) := by unfold lowOk; exact inferInstance
def pushE (l : List En) (e : En) : List En := (if 16 ≤ l.length then l.drop 1 else l) ++ [e]
def lowB (l : List En) (now to size : Int) : Bool :=
  if lowOk now to size then (match (l.filter (freshB now)).find? (toB to) with | some o => decide (size < o.size) | none => true) else false
def lowL (l : List En) (now to size : Int) : List En :=
  if lowOk now to size then (match (l.filter (freshB now)).find? (toB to) with
    | some o => if o.size ≤ size then l.filter (freshB now) else pushE ((l.filter (freshB now)).filter (fun e => !decide (e = o))) ⟨to, size, now⟩
    | none => pushE (l.filter (freshB now)) ⟨to, size, now⟩) else l
def sizeE (l : List En) (now to mtu : Int) : Int :=
  match l.find? (toB to) with | some e => if freshB now e = true then min mtu e.size else mtu | none => mtu
/-- what the table keeps -/
structure Kept (l : List En) : Prop where
  len : l.length ≤ 16
  ok : ∀ e ∈ l, 0 ≤ e.at_ ∧ e.at_ ≤ 1000000000 ∧ 68 ≤ e.size ∧ e.size ≤ 1024
  one : l.Pairwise fun a b => a.to ≠ b.to
theorem kept_nil : Kept [] := ⟨by simp, by simp, List.Pairwise.nil⟩
theorem kept_filter {l : List En} (h : Kept l) (p : En → Bool) : Kept (l.filter p) :=
  ⟨Nat.le_trans (List.length_filter_le _ _) h.len, fun e he => h.ok e (List.mem_filter.1 he).1, h.one.filter p⟩
theorem kept_drop {l : List En} (h : Kept l) (n : Nat) : Kept (l.drop n) :=
  ⟨by rw [List.length_drop]; have := h.len; omega, fun e he => h.ok e (List.mem_of_mem_drop he), h.one.sublist (List.drop_sublist n l)⟩
theorem kept_push {l : List En} (h : Kept l) (e : En) (he : 0 ≤ e.at_ ∧ e.at_ ≤ 1000000000 ∧ 68 ≤ e.size ∧ e.size ≤ 1024) (hn : ∀ x ∈ l, x.to ≠ e.to) : Kept (pushE l e) := by
  unfold pushE
  have key : ∀ m : List En, Kept m → m.length ≤ 15 → (∀ x ∈ m, x.to ≠ e.to) → Kept (m ++ [e]) := by
    intro m hm hl hx
    refine ⟨by simp; omega, ?_, ?_⟩
    · intro y hy
      rcases List.mem_append.1 hy with hy | hy
      · exact hm.ok y hy
      · simp at hy; subst hy; exact he
    · rw [List.pairwise_append]
      refine ⟨hm.one, by simp, ?_⟩
      intro a ha b hb
      simp at hb; subst hb
      exact hx a ha
  split
  · exact key _ (kept_drop h 1) (by rw [List.length_drop]; have := h.len; omega) (fun x hx => hn x (List.mem_of_mem_drop hx))
  · exact key _ h (by omega) hn
theorem eq_of_to {l : List En} (h : l.Pairwise fun a b => a.to ≠ b.to) {a b : En} (ha : a ∈ l) (hb : b ∈ l) (he : a.to = b.to) : a = b := by
  induction l with
  | nil => simp at ha
  | cons x l ih =>
    rw [List.pairwise_cons] at h
    rcases List.mem_cons.1 ha with e1 | e1
    · rcases List.mem_cons.1 hb with e2 | e2
      · rw [e1, e2]
      · exact absurd (by rw [← e1]; exact he) (h.1 b e2)
    · rcases List.mem_cons.1 hb with e2 | e2
      · exact absurd (by rw [← e2]; exact he.symm) (h.1 a e1)
      · exact ih h.2 e1 e2
theorem kept_low {l : List En} (h : Kept l) (now to size : Int) : Kept (lowL l now to size) := by
  unfold lowL
  split
  · rename_i hok
    have hf := kept_filter h (freshB now)
    obtain ⟨⟨n0, n1⟩, -, s0, s1⟩ := hok
    split
    · rename_i o ho
      split
      · exact hf
      · refine kept_push (kept_filter hf _) _ ⟨n0, n1, s0, s1⟩ ?_
        intro x hx he
        obtain ⟨hx1, hx2⟩ := List.mem_filter.1 hx
        have hom := List.mem_of_find?_eq_some ho
        have hot := List.find?_some ho
        have hot : o.to = to := of_decide_eq_true hot
        have := eq_of_to hf.one hx1 hom (by rw [hot]; exact he)
        simp [this] at hx2
    · rename_i ho
      refine kept_push hf _ ⟨n0, n1, s0, s1⟩ ?_
      intro x hx he
      have := List.find?_eq_none.1 ho x hx
      simp [toB] at this
      exact this he
  · exact h
/-- the reference's words -/
def rlowB (l : List En) (now to size : Int) : Bool :=
  if lowOk now to size then !((l.filter (freshB now)).any fun e => toB to e && decide (e.size ≤ size)) else false
def rlowL (l : List En) (now to size : Int) : List En :=
  if lowOk now to size then (if ((l.filter (freshB now)).any fun e => toB to e && decide (e.size ≤ size)) = true then l.filter (freshB now) else pushE ((l.filter (freshB now)).filter (fun e => !toB to e)) ⟨to, size, now⟩) else l
def rsizeE (l : List En) (now to mtu : Int) : Int :=
  match l.find? (fun e => toB to e && freshB now e) with | some e => min mtu e.size | none => mtu
theorem find_any {l : List En} (h : l.Pairwise fun a b => a.to ≠ b.to) {to : Int} {o : En} (ho : l.find? (toB to) = some o) (e : En) (he : e ∈ l) : toB to e = decide (e = o) := by
  have hom := List.mem_of_find?_eq_some ho
  have hot : o.to = to := of_decide_eq_true (show toB to o = true from List.find?_some ho)
  unfold toB
  by_cases q : e = o
  · subst q; simp [hot]
  · have : e.to ≠ to := fun q' => q (eq_of_to h he hom (by rw [hot]; exact q'))
    simp [this, q]
theorem any_of_find {l : List En} (h : l.Pairwise fun a b => a.to ≠ b.to) {to : Int} (size : Int) {o : En} (ho : l.find? (toB to) = some o) : (l.any fun e => toB to e && decide (e.size ≤ size)) = decide (o.size ≤ size) := by
  have hom := List.mem_of_find?_eq_some ho
  by_cases q : o.size ≤ size
  · rw [decide_eq_true q]
    exact List.any_eq_true.2 ⟨o, hom, by rw [find_any h ho o hom]; simp [q]⟩
  · rw [decide_eq_false q, List.any_eq_false]
    intro e he
    rw [find_any h ho e he]
    by_cases q2 : e = o
    · subst q2; simp; omega
    · simp [q2]
theorem any_of_none {l : List En} {to : Int} (size : Int) (ho : l.find? (toB to) = none) : (l.any fun e => toB to e && decide (e.size ≤ size)) = false := by
  rw [List.any_eq_false]
  intro e he
  have := List.find?_eq_none.1 ho e he
  simp at this
  simp [this]
theorem filter_to_none {l : List En} {to : Int} (ho : l.find? (toB to) = none) : l.filter (fun e => !toB to e) = l := by
  rw [List.filter_eq_self]
  intro e he
  have := List.find?_eq_none.1 ho e he
  simpa using this
theorem rlowB_eq {l : List En} (h : Kept l) (now to size : Int) : rlowB l now to size = lowB l now to size := by
  unfold rlowB lowB
  split
  · have hf := kept_filter h (freshB now)
    split
    · rename_i o ho
      rw [any_of_find hf.one size ho]
      by_cases q : o.size ≤ size
      · simp [q]
      · simp [q]; omega
    · rename_i ho
      rw [any_of_none size ho]; rfl
  · rfl
theorem rlowL_eq {l : List En} (h : Kept l) (now to size : Int) : rlowL l now to size = lowL l now to size := by
  unfold rlowL lowL
  by_cases hok : lowOk now to size
  · rw [if_pos hok, if_pos hok]
    have hf := kept_filter h (freshB now)
    cases ho : List.find? (toB to) (l.filter (freshB now)) with
    | none =>
      rw [any_of_none size ho, filter_to_none ho]
      simp
    | some o =>
      rw [any_of_find hf.one size ho]
      by_cases q : o.size ≤ size
      · simp [q]
      · have e : (l.filter (freshB now)).filter (fun e => !toB to e) = (l.filter (freshB now)).filter (fun e => !decide (e = o)) :=
          List.filter_congr fun e he => by rw [find_any hf.one ho e he]
        rw [e]
        simp [q]
  · rw [if_neg hok, if_neg hok]
theorem find_and {l : List En} (h : l.Pairwise fun a b => a.to ≠ b.to) (now to : Int) : l.find? (fun e => toB to e && freshB now e) = (l.find? (toB to)).filter (freshB now) := by
  induction l with
  | nil => rfl
  | cons x l ih =>
    rw [List.pairwise_cons] at h
    cases hx : toB to x with
    | false => simp only [List.find?_cons, hx, Bool.false_and]; exact ih h.2
    | true =>
      cases hf : freshB now x with
      | true => simp [hx, hf, Option.filter]
      | false =>
        have hn : l.find? (fun e => toB to e && freshB now e) = none := by
          rw [List.find?_eq_none]
          intro e he
          have h1 := h.1 e he
          have : x.to = to := of_decide_eq_true hx
          have : toB to e = false := decide_eq_false (fun q => h1 (by rw [this, q]))
          simp [this]
        simp only [List.find?_cons, hx, hf, Bool.and_false]
        rw [hn]
        simp [hf, Option.filter]
theorem rsizeE_eq {l : List En} (h : Kept l) (now to mtu : Int) : rsizeE l now to mtu = sizeE l now to mtu := by
  unfold rsizeE sizeE
  rw [find_and h.one]
  cases ho : l.find? (toB to) with
  | none => rfl
  | some o => cases hf : freshB now o <;> simp [hf, Option.filter]
theorem find_filter (l : List En) (now to : Int) : (l.filter (freshB now)).find? (toB to) = l.find? (fun e => toB to e && freshB now e) := by
  rw [List.find?_filter]
  congr 1
  funext e
  rw [Bool.decide_and, Bool.decide_eq_true, Bool.decide_eq_true, Bool.and_comm]
theorem sizeE_filter {l : List En} (h : Kept l) (now to mtu : Int) : sizeE l now to mtu = match (l.filter (freshB now)).find? (toB to) with | some o => min mtu o.size | none => mtu := by
  rw [find_filter]
  exact (rsizeE_eq h now to mtu).symm
theorem sizeE_push (l : List En) (now to size mtu : Int) (hn : ∀ x ∈ l, x.to ≠ to) : sizeE (pushE l ⟨to, size, now⟩) now to mtu = min mtu size := by
  have hno : ∀ m : List En, (∀ x ∈ m, x.to ≠ to) → m.find? (toB to) = none := fun m hm => by
    rw [List.find?_eq_none]
    intro e he
    simpa [toB] using hm e he
  have e : (pushE l ⟨to, size, now⟩).find? (toB to) = some ⟨to, size, now⟩ := by
    unfold pushE
    rw [List.find?_append]
    split
    · rw [hno _ (fun x hx => hn x (List.mem_of_mem_drop hx))]; simp [toB]
    · rw [hno _ hn]; simp [toB]
  unfold sizeE
  rw [e]
  have : freshB now ⟨to, size, now⟩ = true := by unfold freshB; simp; omega
  simp [this]
/-- Lower returns true exactly if the new size is smaller than the size that applied -/
theorem grows {l : List En} (h : Kept l) (now to size : Int) (hok : lowOk now to size) :
    lowB l now to size = decide (size < sizeE l now to 2000) ∧ sizeE (lowL l now to size) now to 2000 = (if lowB l now to size = true then size else sizeE l now to 2000) ∧ sizeE (lowL l now to size) now to 2000 ≤ sizeE l now to 2000 := by
  have hf := kept_filter h (freshB now)
  have hs := sizeE_filter h now to 2000
  have h2 := hok.2.2
  unfold lowB lowL
  rw [if_pos hok, if_pos hok]
  rw [hs]
  cases ho : List.find? (toB to) (l.filter (freshB now)) with
  | none =>
    have hn : ∀ x ∈ l.filter (freshB now), x.to ≠ to := fun x hx => by
      have := List.find?_eq_none.1 ho x hx
      simpa [toB] using this
    have hp := sizeE_push (l.filter (freshB now)) now to size 2000 hn
    have hb : decide (size < 2000) = true := by simp; omega
    simp only [hp, hb]
    refine ⟨by simp, ?_, ?_⟩
    · simp; omega
    · omega
  | some o =>
    have hm := List.mem_of_find?_eq_some ho
    have hot : o.to = to := of_decide_eq_true (show toB to o = true from List.find?_some ho)
    have h4 := hf.ok o hm
    have e1 : min 2000 o.size = o.size := by omega
    by_cases q : o.size ≤ size
    · have hq : decide (size < o.size) = false := by simp; omega
      have hss := sizeE_filter hf now to 2000
      have ee : (l.filter (freshB now)).filter (freshB now) = l.filter (freshB now) := by rw [List.filter_filter]; congr 1; funext x; simp
      rw [ee, ho] at hss
      simp only [hq, e1, if_pos q] at hss ⊢
      exact ⟨by simp, by simp [hss], by omega⟩
    · have hq : decide (size < o.size) = true := by simp; omega
      have hn : ∀ x ∈ (l.filter (freshB now)).filter (fun e => !decide (e = o)), x.to ≠ to := fun x hx he => by
        obtain ⟨hx1, hx2⟩ := List.mem_filter.1 hx
        have := eq_of_to hf.one hx1 hm (by rw [hot]; exact he)
        simp [this] at hx2
      have hp := sizeE_push _ now to size 2000 hn
      simp only [hq, e1, if_neg q, hp]
      exact ⟨by simp, by simp; omega, by omega⟩
theorem lowL_len {l : List En} (h : Kept l) (now to size : Int) : (lowL l now to size).length ≤ 16 := (kept_low h now to size).len
end Go.Proofs.YtmcfllogcmnnoaaDoor.Ic

namespace Go.Proofs.YtmcfllogcmnnoaaDoor.Ic
set_option maxRecDepth 100000
open Go.RowKit Go.Proofs.YtmcfllogcmnnoaaDoor.Wire

def enV (e : En) : Value := .agg #[.int .i64 e.to, .int .i64 e.size, .int .i64 e.at_]
/-- entry i of the cells is e -/
def At (cur : Array Value) (i : Nat) (e : En) : Prop := cur[i * 3]? = some (.int .i64 e.to) ∧ cur[i * 3 + 1]? = some (.int .i64 e.size) ∧ cur[i * 3 + 2]? = some (.int .i64 e.at_)
/-- block g holds c entries, of which P tells some -/
def RowP (W : World) (g c : Nat) (T : TypeId) (P : Nat → En → Prop) : Prop := ∃ cur, W.heap[g]? = some (.cells cur T (0, 0)) ∧ cur.size = c * 3 ∧ ∀ i e, P i e → i < c ∧ At cur i e
theorem RowP.mono {W : World} {g c : Nat} {T : TypeId} {P Q : Nat → En → Prop} (h : RowP W g c T P) (hq : ∀ i e, Q i e → P i e) : RowP W g c T Q := by
  obtain ⟨cur, h1, h2, h3⟩ := h
  exact ⟨cur, h1, h2, fun i e q => h3 i e (hq i e q)⟩
theorem RowP.lt {W : World} {g c : Nat} {T : TypeId} {P : Nat → En → Prop} (h : RowP W g c T P) : g < W.heap.size := by obtain ⟨cur, h1, -⟩ := h; exact blk_lt h1
theorem RowP.below {W W' : World} {g c : Nat} {T : TypeId} {P : Nat → En → Prop} (h : RowP W g c T P) (hb : Below W.heap.size W W') : RowP W' g c T P := by
  obtain ⟨cur, h1, h2⟩ := h
  exact ⟨cur, bblock hb h1, h2⟩
theorem RowP.alloc {W : World} {g c : Nat} {T : TypeId} {P : Nat → En → Prop} (h : RowP W g c T P) (o : Obj) : RowP (W.alloc o) g c T P := by
  obtain ⟨cur, h1, h2⟩ := h
  exact ⟨cur, block_alloc h1 o, h2⟩
theorem RowP.drew {W : World} {g c : Nat} {T : TypeId} {P : Nat → En → Prop} (h : RowP W g c T P) : RowP W.drew g c T P := h
theorem RowP.other {W W' : World} {g c B : Nat} {T : TypeId} {P : Nat → En → Prop} (h : RowP W g c T P) (hg : W.grownBy W' (some B)) (hne : g ≠ B) : RowP W' g c T P := by
  obtain ⟨cur, h1, h2⟩ := h
  exact ⟨cur, bblock_only hg h1 hne, h2⟩
theorem RowP.setOther {W : World} {g c : Nat} {T : TypeId} {P : Nat → En → Prop} (h : RowP W g c T P) {p : Addr} (hp : p.block ≠ g) (u : Value) : RowP (W.setCell p u) g c T P := by
  obtain ⟨cur, h1, h2⟩ := h
  exact ⟨cur, block_set_other h1 hp, h2⟩
theorem RowP.cells {W : World} {g c : Nat} {T : TypeId} {P : Nat → En → Prop} (h : RowP W g c T P) (i : Nat) (e : En) (he : P i e) :
    W.cell? ⟨g, i * 3, none⟩ = some (.int .i64 e.to) ∧ W.cell? ⟨g, i * 3 + 1, none⟩ = some (.int .i64 e.size) ∧ W.cell? ⟨g, i * 3 + 2, none⟩ = some (.int .i64 e.at_) := by
  obtain ⟨cur, h1, h2, h3⟩ := h
  obtain ⟨-, q0, q1, q2⟩ := h3 i e he
  exact ⟨(cell_of_block h1 q0).1, (cell_of_block h1 q1).1, (cell_of_block h1 q2).1⟩
/-- any cell of the row is there -/
theorem RowP.any {W : World} {g c : Nat} {T : TypeId} {P : Nat → En → Prop} (h : RowP W g c T P) (k : Nat) (hk : k < c * 3) : (W.cell? ⟨g, k, none⟩).isSome = true ∧ W.frozen? ⟨g, k, none⟩ = false := by
  obtain ⟨cur, h1, h2, -⟩ := h
  have e : cur[k]? = some cur[k] := Array.getElem?_eq_getElem (by omega)
  obtain ⟨c1, c2⟩ := cell_of_block h1 e
  exact ⟨by rw [c1]; rfl, c2⟩
theorem RowP.froz {W : World} {g c : Nat} {T : TypeId} {P : Nat → En → Prop} (h : RowP W g c T P) (k : Nat) : W.frozen? ⟨g, k, none⟩ = false := by
  obtain ⟨cur, h1, h2, -⟩ := h
  exact blk_frozen (blk_of h1)
/-- entry i is written -/
theorem RowP.set {W : World} {g c : Nat} {T : TypeId} {P Q : Nat → En → Prop} (h : RowP W g c T P) (i : Nat) (hi : i < c) (e : En) (hq : ∀ j x, Q j x → (j = i ∧ x = e) ∨ (j ≠ i ∧ P j x)) :
    RowP (((W.setCell ⟨g, i * 3, none⟩ (.int .i64 e.to)).setCell ⟨g, i * 3 + 1, none⟩ (.int .i64 e.size)).setCell ⟨g, i * 3 + 2, none⟩ (.int .i64 e.at_)) g c T Q := by
  obtain ⟨cur, h1, h2, h3⟩ := h
  refine ⟨_, block_setCell (block_setCell (block_setCell h1)), by simpa using h2, fun j x hx => ?_⟩
  rcases hq j x hx with ⟨rfl, rfl⟩ | ⟨hne, hp⟩
  · refine ⟨hi, ?_, ?_, ?_⟩
    · rw [Array.getElem?_setIfInBounds_ne (by omega), Array.getElem?_setIfInBounds_ne (by omega), Array.getElem?_setIfInBounds_self, if_pos (by omega)]
    · rw [Array.getElem?_setIfInBounds_ne (by omega), Array.getElem?_setIfInBounds_self, if_pos (by simp; omega)]
    · rw [Array.getElem?_setIfInBounds_self, if_pos (by simp; omega)]
  · obtain ⟨hj, q0, q1, q2⟩ := h3 j x hp
    refine ⟨hj, ?_, ?_, ?_⟩
    all_goals
      rw [Array.getElem?_setIfInBounds_ne (by omega), Array.getElem?_setIfInBounds_ne (by omega), Array.getElem?_setIfInBounds_ne (by omega)]
      first | exact q0 | exact q1 | exact q2
/-- cells from o on are written: the entries ahead stay -/
theorem setCells_block {g : Nat} {T : TypeId} : ∀ (vs : List Value) (o : Nat) (W : World) (cur : Array Value), W.heap[g]? = some (.cells cur T (0, 0)) →
    ∃ cur', (W.setCells g o vs).heap[g]? = some (.cells cur' T (0, 0)) ∧ cur'.size = cur.size ∧ (∀ k, k < o → cur'[k]? = cur[k]?) ∧ (∀ k, o + vs.length ≤ k → cur'[k]? = cur[k]?) ∧ ∀ k u, vs[k]? = some u → o + k < cur.size → cur'[o + k]? = some u
  | [], o, W, cur, h => ⟨cur, h, rfl, fun _ _ => rfl, fun _ _ => rfl, fun k u hu => by simp at hu⟩
  | v :: vs, o, W, cur, h => by
    obtain ⟨cur', h1, h2, h3, h4, h5⟩ := setCells_block vs (o + 1) (W.setCell ⟨g, o, none⟩ v) _ (block_setCell h)
    refine ⟨cur', h1, by simpa using h2, fun k hk => ?_, fun k hk => ?_, fun k u hu hk => ?_⟩
    · rw [h3 k (by omega), Array.getElem?_setIfInBounds_ne (by omega)]
    · rw [h4 k (by simp at hk; omega), Array.getElem?_setIfInBounds_ne (by simp at hk; omega)]
    · cases k with
      | zero =>
        simp at hu; subst hu
        rw [Nat.add_zero, h3 o (by omega), Array.getElem?_setIfInBounds_self, if_pos (by omega)]
      | succ k =>
        have := h5 k u (by simpa using hu) (by simp; omega)
        rw [show o + (k + 1) = o + 1 + k by omega]; exact this
theorem RowP.setCells {W : World} {g c : Nat} {T : TypeId} {P Q : Nat → En → Prop} (h : RowP W g c T P) (i : Nat) (vs : List Value) (hq : ∀ j x, Q j x → P j x ∧ j < i) : RowP (W.setCells g (i * 3) vs) g c T Q := by
  obtain ⟨cur, h1, h2, h3⟩ := h
  obtain ⟨cur', k1, k2, k3, -, -⟩ := setCells_block vs (i * 3) W cur h1
  refine ⟨cur', k1, by omega, fun j x hx => ?_⟩
  obtain ⟨hp, hj⟩ := hq j x hx
  obtain ⟨hc, q0, q1, q2⟩ := h3 j x hp
  exact ⟨hc, (k3 _ (by omega)).trans q0, (k3 _ (by omega)).trans q1, (k3 _ (by omega)).trans q2⟩
theorem only_setCells {a : World} {g : Nat} : ∀ (vs : List Value) (o : Nat) {w : World}, a.grownBy w (some g) → a.grownBy (w.setCells g o vs) (some g)
  | [], _, _, h => h
  | v :: vs, o, _, h => only_setCells vs (o + 1) (only_set h (.inl rfl) v)
/-- the cells of entries -/
def enCells (l : List En) : List Value := l.flatMap fun e => [.int .i64 e.to, .int .i64 e.size, .int .i64 e.at_]
theorem enCells_length (l : List En) : (enCells l).length = l.length * 3 := by
  unfold enCells
  induction l with
  | nil => rfl
  | cons a l ih => simp [ih]; omega
theorem enCells_get : ∀ (l : List En) (i : Nat) (e : En), l[i]? = some e → (enCells l)[i * 3]? = some (.int .i64 e.to) ∧ (enCells l)[i * 3 + 1]? = some (.int .i64 e.size) ∧ (enCells l)[i * 3 + 2]? = some (.int .i64 e.at_)
  | [], i, x, h => by simp at h
  | a :: l, 0, x, h => by simp at h; subst h; simp [enCells]
  | a :: l, i + 1, x, h => by
    have := enCells_get l i x (by simpa using h)
    have e : enCells (a :: l) = .int .i64 a.to :: .int .i64 a.size :: .int .i64 a.at_ :: enCells l := rfl
    rw [e]
    have e1 : (i + 1) * 3 = i * 3 + 1 + 1 + 1 := by omega
    rw [e1]
    simpa using this
theorem enCells_one (l : List En) : ∀ u ∈ enCells l, u.oneCell' = true := by
  intro u hu
  unfold enCells at hu
  rw [List.mem_flatMap] at hu
  obtain ⟨e, -, h⟩ := hu
  simp at h
  rcases h with rfl | rfl | rfl <;> rfl
theorem RowP.lay {W : World} {g c : Nat} {T : TypeId} {P : Nat → En → Prop} (h : RowP W g c T P) (l : List En) (hl : l.length ≤ c) : RowP (W.setCells g 0 (enCells l)) g c T (fun i e => l[i]? = some e) := by
  obtain ⟨cur, h1, h2, h3⟩ := h
  obtain ⟨cur', k1, k2, -, -, k5⟩ := setCells_block (enCells l) 0 W cur h1
  refine ⟨cur', k1, by omega, fun j x hx => ?_⟩
  have hj : j < l.length := (List.getElem?_eq_some_iff.1 hx).1
  obtain ⟨q0, q1, q2⟩ := enCells_get l j x hx
  have key : ∀ k u, (enCells l)[k]? = some u → k < c * 3 → cur'[k]? = some u := fun k u hu hk => by
    have := k5 k u hu (by omega)
    rwa [Nat.zero_add] at this
  exact ⟨by omega, key _ _ q0 (by omega), key _ _ q1 (by omega), key _ _ q2 (by omega)⟩
/-- clear(s), s a slice of structs of three integers -/
theorem zeroCells_three (n : Nat) : (Builtin.zeroCells #[.int .i64 0, .int .i64 0, .int .i64 0] n).toList.length = n * 3 ∧ ∀ v ∈ (Builtin.zeroCells #[.int .i64 0, .int .i64 0, .int .i64 0] n).toList, v.oneCell' = true := by
  refine ⟨by simp [Builtin.zeroCells], fun v hv => ?_⟩
  simp only [Builtin.zeroCells, Array.toList_map, List.mem_map] at hv
  obtain ⟨i, -, rfl⟩ := hv
  have : i % 3 < 3 := Nat.mod_lt _ (by omega)
  generalize i % 3 = j at *
  match j, this with
  | 0, _ => rfl
  | 1, _ => rfl
  | 2, _ => rfl
theorem run_clear_three {P : Program} (w : World) (t e ty : TypeId) (ht : P.underlying t = some (.slice e)) (hv : ∀ w, (zeroValue e).run P w = .ok (.agg #[.int .i64 0, .int .i64 0, .int .i64 0]) w) (b o n c : Nat) (hn : 0 < n)
    (hc : ∀ j, j < n * 3 → (w.cell? ⟨b, o + j, none⟩).isSome = true) (hf : ∀ j, j < n * 3 → w.frozen? ⟨b, o + j, none⟩ = false) :
    (Builtin.clear_ #[t] ty #[.slice (some ⟨b, o, none⟩) n c]).run P w = .ok (.tuple #[]) (w.setCells b o (Builtin.zeroCells #[.int .i64 0, .int .i64 0, .int .i64 0] n).toList) := by
  obtain ⟨hl, h1⟩ := zeroCells_three n
  have hst := run_storeCells_cells (P := P) b o (Builtin.zeroCells #[.int .i64 0, .int .i64 0, .int .i64 0] n).toList 0 w (by rw [hl]; simpa using hc) (by rw [hl]; simpa using hf) h1
  simp only [Nat.add_zero] at hst
  obtain ⟨m, rfl⟩ : ∃ m, n = m + 1 := ⟨n - 1, by omega⟩
  simp [Builtin.clear_, run_underlying ht, hv, hst, Value.cells]
end Go.Proofs.YtmcfllogcmnnoaaDoor.Ic

namespace Go.Proofs.YtmcfllogcmnnoaaDoor.Ic
set_option maxRecDepth 100000
open Go.RowKit Go.Proofs.YtmcfllogcmnnoaaDoor.Wire

/-- the function value answers the test p, whatever has become of block g -/
def Tests (fn : Nat) (lb : Array Value) (p : En → Bool) (g : Nat) (l : List En) (w : World) : Prop := ∀ (e : En) (_ : e ∈ l) (W : World), w.grownBy W (some g) →
  Calls Tryd.prog fn (#[enV e] ++ lb) W fun x W' => x = .returned (.bool (p e)) ∧ Below W.heap.size W W'
/-- the first place at which p holds -/
def idxI (p : En → Bool) (l : List En) : Int := match l.findIdx? p with | some i => (i : Int) | none => -1
theorem idxI_none {p : En → Bool} {l : List En} (h : ∀ (j : Nat) (e : En), l[j]? = some e → p e = false) : idxI p l = -1 := by
  unfold idxI
  rw [List.findIdx?_eq_none_iff.2 (fun e he => by obtain ⟨j, hj⟩ := List.getElem?_of_mem he; exact h j e hj)]
theorem idxI_some {p : En → Bool} {l : List En} {k : Nat} {x : En} (hx : l[k]? = some x) (hp : p x = true) (h : ∀ (j : Nat) (e : En), j < k → l[j]? = some e → p e = false) : idxI p l = (k : Int) := by
  unfold idxI
  obtain ⟨hk, rfl⟩ := List.getElem?_eq_some_iff.1 hx
  have : l.findIdx? p = some k := by
    rw [List.findIdx?_eq_some_iff_getElem]
    exact ⟨hk, hp, fun j hj => by rw [h j _ hj (List.getElem?_eq_getElem (by omega))]; simp⟩
  rw [this]
set_option maxHeartbeats 2000000 in
theorem index_any (fn : Nat) (lb : Array Value) (eg : ∀ args w, (callFunc fn args).run Tryd.prog w = .ok (.enter fn args) w) (p : En → Bool) (g c : Nat) (l : List En) (w : World) (hl : l.length ≤ 9223372036854775807)
    (hr : RowP w g c 100 (fun i e => l[i]? = some e)) (hp : Tests fn lb p g l w) :
    Calls Tryd.prog 81 #[.slice (some ⟨g, 0, none⟩) l.length c, .func (.func fn) #[] lb] w fun x w' => x = .returned (.int .i64 (idxI p l)) ∧ Below w.heap.size w w' := by
  have HR := Lib.hid hr; have HP := Lib.hid hp; clear hr hp
  have HB := Below.refl w.heap.size w
  obtain ⟨n, hn⟩ : ∃ n, n = l.length := ⟨_, rfl⟩
  rw [← hn] at hl ⊢
  have HN := Lib.hid hn; clear hn
  go_enter Tryd.func81, Tryd.ntmps81
  go_wp2_with fail
  go_loopw [5, 8] (fun _ i wr => ∃ k : Nat, k ≤ n ∧ i = .int .i64 (k : Int) ∧ (∀ (j : Nat) (e : En), j < k → l[j]? = some e → p e = false) ∧ Below w.heap.size w wr) (fun _ i _ => n - (Go.RowKit.intOf i).toNat)
  case atStart => exact ⟨0, by omega, rfl, fun j e hj => by omega, HB⟩
  case round =>
    clear HB
    obtain ⟨k, hk, rfl, hok, HB⟩ := hrel
    have HO := Lib.hid hok; clear hok
    by_cases hlt : k < n
    · have k1 : (0 : Int) ≤ (k : Int) := by omega
      have k2 : (k : Int) < (n : Int) := by omega
      obtain ⟨x, hx⟩ : ∃ x, l[k]? = some x := ⟨l[k]'(by rw [← HN.out]; exact hlt), List.getElem?_eq_getElem _⟩
      obtain ⟨c0, c1, c2⟩ := HR.out.cells k x hx
      have hgl := HR.out.lt
      have d0 := (HB.cell (p := ⟨g, k * 3, none⟩) hgl).trans c0
      have d1 := (HB.cell (p := ⟨g, k * 3 + 1, none⟩) hgl).trans c1
      have d2 := (HB.cell (p := ⟨g, k * 3 + 2, none⟩) hgl).trans c2
      have HX := Lib.hid hx; clear hx c0 c1 c2
      have HC : Hid (∀ W, Below wr.heap.size wr W → Calls Tryd.prog fn (#[enV x] ++ lb) W fun x' W' => x' = .returned (.bool (p x)) ∧ Below W.heap.size W W') := Lib.hid fun W hb => HP.out x (List.mem_of_getElem? HX.out) W (only_of_below (below_call HB hb))
      unfold enV at HC
      cases hq : p x with
      | true =>
        rw [hq] at HC
        go_wp2_with (go_at_fn fn; refine (HC.out _ (by first | exact Below.refl _ _ | exact (Below.refl _ _).drew)).mono ?_; rintro e w' ⟨rfl, hb⟩)
        go_ret
        exact ⟨by rw [idxI_some HX.out hq (fun j e hj => HO.out j e hj)]; rfl, below_call HB hb⟩
      | false =>
        rw [hq] at HC
        go_wp2_with (go_at_fn fn; refine (HC.out _ (by first | exact Below.refl _ _ | exact (Below.refl _ _).drew)).mono ?_; rintro e w' ⟨rfl, hb⟩)
        refine ⟨⟨k + 1, by omega, by go_num, fun j e hj he => ?_, below_call HB hb⟩, by simp [Go.RowKit.intOf]; omega⟩
        rcases Nat.lt_succ_iff_lt_or_eq.1 hj with q | q
        · exact HO.out j e q he
        · subst q; rw [HX.out] at he; cases he; exact hq
    · have hltz : ¬ (k : Int) < (n : Int) := by omega
      have HK : Hid (k = n) := Lib.hid (by omega)
      go_wp2_with fail
      go_ret
      exact ⟨by rw [idxI_none (fun j e he => HO.out j e (by rw [HK.out, HN.out]; exact (List.getElem?_eq_some_iff.1 he).1) he)]; rfl, HB⟩
end Go.Proofs.YtmcfllogcmnnoaaDoor.Ic

namespace Go.Proofs.YtmcfllogcmnnoaaDoor.Ic
set_option maxRecDepth 100000
open Go.RowKit Go.Proofs.YtmcfllogcmnnoaaDoor.Wire

theorem fresh_any (e : En) (now : Int) (w : World) (h0 : 0 ≤ e.at_ ∧ e.at_ ≤ 1000000000) :
    Calls Tryd.prog 58 #[enV e, .int .i64 now] w fun x w' => x = .returned (.bool (freshB now e)) ∧ Below w.heap.size w w' := by
  unfold enV
  have hw : IntKind.i64.wrap (e.at_ + 600) = e.at_ + 600 := IntWalk.i64_in _ (by omega)
  have HB := (Below.refl w.heap.size w).alloc (Nat.le_refl _) (.cells #[.int .i64 e.to, .int .i64 e.size, .int .i64 e.at_] 100)
  unfold freshB
  go_enter Tryd.func58, Tryd.ntmps58
  go_wp2_with fail
  go_ret
  exact ⟨rfl, HB⟩
theorem old_tests (b g : Nat) (now : Int) (l : List En) (w : World) (hb : w.heap[b]? = some (.cells #[.int .i64 now] 3 (0, 0))) (hne : b ≠ g) (hok : ∀ e ∈ l, 0 ≤ e.at_ ∧ e.at_ ≤ 1000000000) :
    Tests 57 #[.pointer (some ⟨b, 0, none⟩)] (fun e => !freshB now e) g l w := by
  intro e he W hW
  have hc := (cell_of_box (bblock_only hW hb hne)).1
  have HE := Lib.hid (hok e he)
  have HF := Lib.hid fun W => fresh_any e now W HE.out
  clear hok he hb hW
  show Calls _ _ #[enV e, .pointer (some ⟨b, 0, none⟩)] _ _
  unfold enV at HF ⊢
  have HB := (Below.refl W.heap.size W).alloc (Nat.le_refl _) (.cells #[.int .i64 e.to, .int .i64 e.size, .int .i64 e.at_] 100)
  have hc' := cell_alloc' (.cells #[.int .i64 e.to, .int .i64 e.size, .int .i64 e.at_] 100) hc
  go_enter Tryd.func57, Tryd.ntmps57
  go_wp2_with fail
  refine (HF.out _).mono ?_
  rintro x w' ⟨rfl, hb⟩
  go_wp2_with fail
  go_ret
  exact ⟨rfl, below_call HB hb⟩
theorem eqEn (e o : En) : ∀ w : World, (Op.equalIn 10000 100 (.agg #[.int .i64 e.to, .int .i64 e.size, .int .i64 e.at_]) (.agg #[.int .i64 o.to, .int .i64 o.size, .int .i64 o.at_])).run Tryd.prog w = .ok (decide (e = o)) w := by
  intro w
  have he : decide (e = o) = decide (e.to = o.to ∧ e.size = o.size ∧ e.at_ = o.at_) := by
    apply decide_eq_decide.2
    constructor
    · rintro rfl; exact ⟨rfl, rfl, rfl⟩
    · rintro ⟨h1, h2, h3⟩; cases e; cases o; simp_all
  rw [he]
  go_simp
  by_cases h0 : e.to = o.to
  case neg => simp [h0]
  by_cases h1 : e.size = o.size
  case neg => simp [h0, h1]
  by_cases h2 : e.at_ = o.at_ <;> simp [h0, h1, h2]
theorem same_tests (b g : Nat) (o : En) (l : List En) (w : World) (hb : w.heap[b]? = some (.cells #[.int .i64 o.to, .int .i64 o.size, .int .i64 o.at_] 100 (0, 0))) (hne : b ≠ g) :
    Tests 60 #[.pointer (some ⟨b, 0, none⟩)] (fun e => decide (e = o)) g l w := by
  intro e he W hW
  obtain ⟨⟨c0, c1, c2⟩, -⟩ := cells3 (bblock_only hW hb hne)
  have hq := eqEn e o
  clear he hb hW
  show Calls _ _ #[enV e, .pointer (some ⟨b, 0, none⟩)] _ _
  unfold enV
  generalize hd : decide (e = o) = d at hq
  have HD := Lib.hid hd; clear hd
  have HB := (Below.refl W.heap.size W).alloc (Nat.le_refl _) (.cells #[.int .i64 e.to, .int .i64 e.size, .int .i64 e.at_] 100)
  have c0' := cell_alloc' (.cells #[.int .i64 e.to, .int .i64 e.size, .int .i64 e.at_] 100) c0
  have c1' := cell_alloc' (.cells #[.int .i64 e.to, .int .i64 e.size, .int .i64 e.at_] 100) c1
  have c2' := cell_alloc' (.cells #[.int .i64 e.to, .int .i64 e.size, .int .i64 e.at_] 100) c2
  go_enter Tryd.func60, Tryd.ntmps60
  go_wp2_with fail
  go_ret
  refine ⟨?_, HB⟩
  show Ending.returned _ = .returned (.bool (decide (e = o)))
  rw [HD.out]; rfl
/-- what DeleteFunc leaves -/
def keepL (p : En → Bool) (l : List En) : List En := l.filter fun e => !p e
/-- the second loop: m entries looked at, k of them kept -/
structure Half (p : En → Bool) (l : List En) (m k : Nat) : Prop where
  len : (keepL p (l.take m)).length = k
  lt : k < m
theorem keepL_succ {p : En → Bool} {l : List En} {m : Nat} {x : En} (hx : l[m]? = some x) : keepL p (l.take (m + 1)) = keepL p (l.take m) ++ (if p x = true then [] else [x]) := by
  unfold keepL
  rw [List.take_add_one, hx, List.filter_append]
  congr 1
  cases h : p x <;> simp [h]
theorem Half.start {p : En → Bool} {l : List En} {k : Nat} {x : En} (hx : l[k]? = some x) (hp : p x = true) (h : ∀ (j : Nat) (e : En), j < k → l[j]? = some e → p e = false) : Half p l (k + 1) k ∧ ∀ (i : Nat) (e : En), (keepL p (l.take (k + 1)))[i]? = some e → l[i]? = some e := by
  have e1 : keepL p (l.take k) = l.take k := by
    unfold keepL
    rw [List.filter_eq_self]
    intro e he
    obtain ⟨j, hj⟩ := List.getElem?_of_mem he
    have hjk : j < k := by
      have := (List.getElem?_eq_some_iff.1 hj).1
      rw [List.length_take] at this; omega
    rw [List.getElem?_take_of_lt hjk] at hj
    simp [h j e hjk hj]
  have hk : k < l.length := (List.getElem?_eq_some_iff.1 hx).1
  refine ⟨⟨?_, by omega⟩, fun i e he => ?_⟩
  · rw [keepL_succ hx, e1, if_pos hp, List.append_nil, List.length_take]; omega
  · rw [keepL_succ hx, e1, if_pos hp, List.append_nil] at he
    have hik : i < k := by
      have := (List.getElem?_eq_some_iff.1 he).1
      rw [List.length_take] at this; omega
    rwa [List.getElem?_take_of_lt hik] at he
/-- what the row holds in the second loop -/
def HalfP (p : En → Bool) (l : List En) (m : Nat) (i : Nat) (e : En) : Prop := (keepL p (l.take m))[i]? = some e ∨ (m ≤ i ∧ l[i]? = some e)
theorem keepL_mem {p : En → Bool} {l : List En} {e : En} (h : e ∈ keepL p l) : e ∈ l := (List.mem_filter.1 h).1
end Go.Proofs.YtmcfllogcmnnoaaDoor.Ic

namespace Go.Proofs.YtmcfllogcmnnoaaDoor.Ic
set_option maxRecDepth 100000
open Go.RowKit Go.Proofs.YtmcfllogcmnnoaaDoor.Wire

theorem idxI_cases (p : En → Bool) (l : List En) : (idxI p l = -1 ∧ keepL p l = l) ∨ ∃ k x, idxI p l = ((k : Nat) : Int) ∧ l[k]? = some x ∧ p x = true ∧ ∀ (j : Nat) (e : En), j < k → l[j]? = some e → p e = false := by
  cases h : l.findIdx? p with
  | none =>
    left
    have := List.findIdx?_eq_none_iff.1 h
    refine ⟨by unfold idxI; rw [h], ?_⟩
    unfold keepL
    rw [List.filter_eq_self]
    intro e he
    simp [this e he]
  | some k =>
    right
    rw [List.findIdx?_eq_some_iff_getElem] at h
    obtain ⟨hk, hp, hj⟩ := h
    have hk' : l[k]? = some l[k] := List.getElem?_eq_getElem hk
    have hall : ∀ (j : Nat) (e : En), j < k → l[j]? = some e → p e = false := fun j e hjk he => by
      obtain ⟨hl, rfl⟩ := List.getElem?_eq_some_iff.1 he
      simpa using hj j hjk
    exact ⟨k, l[k], idxI_some hk' hp hall, hk', hp, hall⟩
set_option maxHeartbeats 4000000 in
theorem delete_any (fn : Nat) (lb : Array Value) (eg : ∀ args w, (callFunc fn args).run Tryd.prog w = .ok (.enter fn args) w) (p : En → Bool) (g c : Nat) (l : List En) (w : World) (hl : l.length ≤ c) (hc : l.length ≤ 1000000)
    (hr : RowP w g c 100 (fun i e => l[i]? = some e)) (hp : Tests fn lb p g l w) :
    Calls Tryd.prog 56 #[.slice (some ⟨g, 0, none⟩) l.length c, .func (.func fn) #[] lb] w fun x w' =>
      x = .returned (.slice (some ⟨g, 0, none⟩) (keepL p l).length c) ∧ RowP w' g c 100 (fun i e => (keepL p l)[i]? = some e) ∧ w.grownBy w' (some g) := by
  have HI := Lib.hid (index_any fn lb eg p g c l w (by omega) hr hp)
  have HR := Lib.hid hr; have HP := Lib.hid hp; clear hr hp
  obtain ⟨n, hn⟩ : ∃ n, n = l.length := ⟨_, rfl⟩
  rw [← hn] at hl hc HI ⊢
  have HN := Lib.hid hn; clear hn
  rcases idxI_cases p l with ⟨e1, e2⟩ | ⟨k0, x0, e1, hx0, hp0, hall⟩
  · rw [e1] at HI
    have HK := Lib.hid e2; clear e1 e2
    go_enter Tryd.func56, Tryd.ntmps56
    go_wp2_with fail
    refine HI.out.mono ?_
    rintro e w1 ⟨rfl, hb⟩
    go_wp2_with fail
    go_ret
    exact ⟨by rw [HK.out, ← HN.out]; rfl, by rw [HK.out]; exact HR.out.below hb, only_of_below hb⟩
  · rw [e1] at HI
    obtain ⟨hs, hs2⟩ := Half.start hx0 hp0 hall
    have HS := Lib.hid hs; have HS2 := Lib.hid hs2
    have HX0 : Hid (k0 < n) := Lib.hid (by rw [HN.out]; exact (List.getElem?_eq_some_iff.1 hx0).1)
    clear e1 hx0 hp0 hall hs hs2
    go_enter Tryd.func56, Tryd.ntmps56
    have hk0 : ((k0 : Int) == -1) = false := beq_eq_false_iff_ne.2 (by omega)
    have hk1 : (k0 : Int) ≤ 1000000 := by have := HX0.out; omega
    have hk2 : (0 : Int) ≤ (k0 : Int) := by omega
    go_wp2_with fail
    refine HI.out.mono ?_
    rintro e w1 ⟨rfl, hb⟩
    have HG := only_of_below (B := g) hb
    have HR1 := Lib.hid ((HR.out.below hb).mono (Q := HalfP p l (k0 + 1)) (fun i e he => by
      rcases he with he | ⟨-, he⟩
      · exact HS2.out i e he
      · exact he))
    clear hb
    go_wp2_with fail
    clear hk0 hk1 hk2
    go_loopw [5, 6, 7] (fun a b _ wr => ∃ k m : Nat, m ≤ n ∧ a = .int .i64 (k : Int) ∧ b = .int .i64 (m : Int) ∧ Half p l m k ∧ RowP wr g c 100 (HalfP p l m) ∧ w.grownBy wr (some g)) (fun _ b _ _ => n - (Go.RowKit.intOf b).toNat)
    case atStart => exact ⟨k0, k0 + 1, by have := HX0.out; omega, rfl, by go_num, HS.out, HR1.out, HG⟩
    case round =>
      clear HG HR1
      obtain ⟨k, m, hm, rfl, rfl, hH, hrow, HG⟩ := hrel
      have HR2 := Lib.hid hrow; have HH := Lib.hid hH; clear hrow hH
      have hkm := HH.out.lt
      have hgl := HR2.out.lt
      by_cases hlt : m < n
      · have k1 : (0 : Int) ≤ (m : Int) := by omega
        have k2 : (m : Int) < (n : Int) := by omega
        obtain ⟨x, hx⟩ : ∃ x, l[m]? = some x := ⟨l[m]'(by rw [← HN.out]; exact hlt), List.getElem?_eq_getElem _⟩
        obtain ⟨c0, c1, c2⟩ := HR2.out.cells m x (.inr ⟨Nat.le_refl _, hx⟩)
        have HX := Lib.hid hx; clear hx
        have HC : Hid (∀ W, w.grownBy W (some g) → Calls Tryd.prog fn (#[enV x] ++ lb) W fun x' W' => x' = .returned (.bool (p x)) ∧ Below W.heap.size W W') := Lib.hid fun W hb => HP.out x (List.mem_of_getElem? HX.out) W hb
        have hA := Lib.hid (alloc_new wr (.cells #[.int .i64 x.to, .int .i64 x.size, .int .i64 x.at_] 100))
        have HGA := only_alloc (o := .cells #[.int .i64 x.to, .int .i64 x.size, .int .i64 x.at_] 100) HG
        have HRA := Lib.hid (HR2.out.alloc (.cells #[.int .i64 x.to, .int .i64 x.size, .int .i64 x.at_] 100))
        have a0 := (cell_of_block (k := 0) hA.out rfl).1; have a1 := (cell_of_block (k := 1) hA.out rfl).1; have a2 := (cell_of_block (k := 2) hA.out rfl).1
        unfold enV at HC
        cases hq : p x with
        | true =>
          rw [hq] at HC
          have HQ := Lib.hid hq; clear hq
          go_wp2_with (go_at_fn fn; refine (HC.out _ HGA).mono ?_; rintro e w2 ⟨rfl, hb⟩)
          have hne : ((g : Nat) ≠ wr.heap.size) := by omega
          refine ⟨⟨k, m + 1, by omega, rfl, by go_num, ⟨?_, by omega⟩, (HRA.out.below hb).mono fun i e he => ?_, only_call HGA hb⟩, by simp [Go.RowKit.intOf]; omega⟩
          · rw [keepL_succ HX.out, if_pos HQ.out, List.append_nil]; exact HH.out.len
          · unfold HalfP at he ⊢
            rw [keepL_succ HX.out, if_pos HQ.out, List.append_nil] at he
            rcases he with he | ⟨h1, h2⟩
            · exact .inl he
            · exact .inr ⟨by omega, h2⟩
        | false =>
          rw [hq] at HC
          have HQ := Lib.hid hq; clear hq
          go_wp2_with (go_at_fn fn; refine (HC.out _ HGA).mono ?_; rintro e w2 ⟨rfl, hb⟩; have b0 := bcell hb a0; have b1 := bcell hb a1; have b2 := bcell hb a2; have HR3 := Lib.hid (HRA.out.below hb); have HG3 := only_call HGA hb; obtain ⟨u0, s0⟩ := Option.isSome_iff_exists.1 (HR3.out.any (k * 3) (by omega)).1; obtain ⟨u1, s1⟩ := Option.isSome_iff_exists.1 (HR3.out.any (k * 3 + 1) (by omega)).1; obtain ⟨u2, s2⟩ := Option.isSome_iff_exists.1 (HR3.out.any (k * 3 + 2) (by omega)).1; have f0 := HR3.out.froz (k * 3); have f1 := HR3.out.froz (k * 3 + 1); have f2 := HR3.out.froz (k * 3 + 2); have k3 : (0 : Int) ≤ (k : Int) := (by omega); have k4 : (k : Int) < (n : Int) := (by omega))
          refine ⟨⟨k + 1, m + 1, by omega, by go_num, by go_num, ⟨?_, by omega⟩, HR3.out.set k (by omega) x fun i e he => ?_, only_set (only_set (only_set HG3 (.inl rfl) _) (.inl rfl) _) (.inl rfl) _⟩, by simp [Go.RowKit.intOf]; omega⟩
          · rw [keepL_succ HX.out, if_neg (by rw [HQ.out]; decide), List.length_append, HH.out.len]; rfl
          · unfold HalfP at he ⊢
            rw [keepL_succ HX.out, if_neg (by rw [HQ.out]; decide)] at he
            have hl := HH.out.len
            rcases he with he | ⟨h1, h2⟩
            · rcases Nat.lt_trichotomy i k with q | q | q
              · rw [List.getElem?_append_left (by omega)] at he
                exact .inr ⟨by omega, .inl he⟩
              · subst q
                rw [List.getElem?_append_right (by omega), hl, Nat.sub_self] at he
                exact .inl ⟨rfl, (Option.some.inj he).symm⟩
              · rw [List.getElem?_eq_none (by simp; omega)] at he; cases he
            · exact .inr ⟨by omega, .inr ⟨by omega, h2⟩⟩
      · have hmn : m = n := by omega
        have HK : Hid (l.take m = l) := Lib.hid (List.take_of_length_le (by rw [← HN.out]; omega))
        clear hlt
        have HM := Lib.hid hmn
        subst hmn
        have hz : ¬ (m : Int) < (m : Int) := by omega
        have k3 : (0 : Int) ≤ (k : Int) := by omega
        have k4 : (k : Int) ≤ (m : Int) := by omega
        have k5 : (k : Int) ≤ (c : Int) := by omega
        have hcl : ∀ ty, (Builtin.clear_ #[95] ty #[.slice (some ⟨g, k * 3, none⟩) (m - k) (c - k)]).run Tryd.prog wr = .ok (.tuple #[]) (wr.setCells g (k * 3) (Builtin.zeroCells #[.int .i64 0, .int .i64 0, .int .i64 0] (m - k)).toList) :=
          fun ty => run_clear_three wr _ _ ty Tryd.underlying95 Tryd.zeroValue100 g (k * 3) (m - k) (c - k) (by omega) (fun j hj => (HR2.out.any (k * 3 + j) (by omega)).1) (fun j hj => HR2.out.froz (k * 3 + j))
        go_wp2_with fail
        go_ret
        have hlen : (keepL p l).length = k := by rw [← HK.out]; exact HH.out.len
        refine ⟨by rw [hlen]; rfl, HR2.out.setCells k _ fun j x hx => ?_, only_setCells _ _ HG⟩
        have hj : j < k := by rw [← hlen]; exact (List.getElem?_eq_some_iff.1 hx).1
        refine ⟨.inl ?_, hj⟩
        rw [HK.out]; exact hx
end Go.Proofs.YtmcfllogcmnnoaaDoor.Ic

namespace Go.Proofs.YtmcfllogcmnnoaaDoor.Ic
set_option maxRecDepth 100000
open Go.RowKit Go.Proofs.YtmcfllogcmnnoaaDoor.Wire

/-- a slice that holds the entries l; row: its block -/
def SlP (row : Option Nat) (A : Option Addr) (c : Nat) (l : List En) (W : World) : Prop := match row with
  | none => A = none ∧ l = [] ∧ c = 0
  | some g => A = some ⟨g, 0, none⟩ ∧ RowP W g c 100 (fun i e => l[i]? = some e) ∧ l.length ≤ c ∧ c ≤ maxLen
theorem SlP.below {row : Option Nat} {A : Option Addr} {c : Nat} {l : List En} {W W' : World} (h : SlP row A c l W) (hb : Below W.heap.size W W') : SlP row A c l W' := by
  cases row with
  | none => exact h
  | some g => exact ⟨h.1, h.2.1.below hb, h.2.2⟩
theorem SlP.lt {row : Option Nat} {A : Option Addr} {c : Nat} {l : List En} {W : World} (h : SlP row A c l W) (g : Nat) (hg : row = some g) : g < W.heap.size := by
  subst hg
  exact h.2.1.lt
theorem SlP.open_ {row : Option Nat} {A : Option Addr} {c : Nat} {l : List En} {W : World} (h : SlP row A c l W) (hl : 0 < l.length) : ∃ g, A = some ⟨g, 0, none⟩ ∧ RowP W g c 100 (fun i e => l[i]? = some e) := by
  cases row with
  | none => obtain ⟨-, rfl, -⟩ := h; simp at hl
  | some g => exact ⟨g, h.1, h.2.1⟩
theorem SlP.keep {row : Option Nat} {A : Option Addr} {c : Nat} {l : List En} {W W' : World} (h : SlP row A c l W) (hk : ∀ g, row = some g → W'.heap[g]? = W.heap[g]?) : SlP row A c l W' := by
  cases row with
  | none => exact h
  | some g =>
    obtain ⟨h1, ⟨cur, h2, h3⟩, h4⟩ := h
    exact ⟨h1, ⟨cur, (hk g rfl).trans h2, h3⟩, h4⟩
/-- the table at B holds the entries l -/
def IsP (row : Option Nat) (B : Nat) (l : List En) (W : World) : Prop := row ≠ some B ∧ ∃ A c, W.heap[B]? = some (.cells #[.slice A l.length c] 97 (0, 0)) ∧ SlP row A c l W
theorem IsP.below {row : Option Nat} {B : Nat} {l : List En} {W W' : World} (h : IsP row B l W) (hb : Below W.heap.size W W') : IsP row B l W' := by
  obtain ⟨h0, A, c, h1, h2⟩ := h
  exact ⟨h0, A, c, bblock hb h1, h2.below hb⟩
theorem IsP.lt {row : Option Nat} {B : Nat} {l : List En} {W : World} (h : IsP row B l W) : B < W.heap.size := by
  obtain ⟨h0, A, c, h1, h2⟩ := h
  exact blk_lt h1
theorem IsP.slice {row : Option Nat} {B : Nat} {l : List En} {W : World} (h : IsP row B l W) : ∃ A c, W.heap[B]? = some (.cells #[.slice A l.length c] 97 (0, 0)) ∧ (0 < l.length → ∃ g, A = some ⟨g, 0, none⟩ ∧ RowP W g c 100 (fun i e => l[i]? = some e)) := by
  obtain ⟨h0, A, c, h1, h2⟩ := h
  exact ⟨A, c, h1, h2.open_⟩
theorem IsP.keep {row : Option Nat} {B : Nat} {l : List En} {W W' : World} (h : IsP row B l W) (hB : W'.heap[B]? = W.heap[B]?) (hk : ∀ g, row = some g → W'.heap[g]? = W.heap[g]?) : IsP row B l W' := by
  obtain ⟨h0, A, c, h1, h2⟩ := h
  exact ⟨h0, A, c, hB.trans h1, h2.keep hk⟩
theorem new_any (w : World) : Calls Tryd.prog 28 #[] w fun e w' => e = .returned (.pointer (some ⟨w.heap.size, 0, none⟩)) ∧ IsP none w.heap.size [] w' ∧ Below w.heap.size w w' ∧ w.heap.size < w'.heap.size := by
  go_enter Tryd.func28, Tryd.ntmps28
  go_wp2_with fail
  go_ret
  exact ⟨rfl, ⟨by simp, none, 0, alloc_new _ _, rfl, rfl, rfl⟩, below_alloc (Below.refl _ _), by simp⟩
theorem plen_any (row : Option Nat) (B : Nat) (l : List En) (w : World) (h : IsP row B l w) : Calls Tryd.prog 32 #[.pointer (some ⟨B, 0, none⟩)] w fun e w' => e = .returned (.int .i64 l.length) ∧ Below w.heap.size w w' := by
  obtain ⟨A, c, hb, -⟩ := h.slice
  have c0 := (cell_of_box hb).1
  clear h hb
  go_enter Tryd.func32, Tryd.ntmps32
  go_wp2_with fail
  go_ret
  exact ⟨rfl, Below.refl _ _⟩
/-- what find answers -/
def fndV (o : Option En) : Value := match o with | some e => enV e | none => .agg #[.int .i64 0, .int .i64 0, .int .i64 0]
theorem infoEn : (Tryd.prog.info? 100).map (·.size) = some 3 := by kernel_rfl
set_option maxHeartbeats 2000000 in
theorem pfind_any (row : Option Nat) (B : Nat) (l : List En) (to : Int) (w : World) (h : IsP row B l w) (hl : l.length ≤ 1000000) : Calls Tryd.prog 59 #[.pointer (some ⟨B, 0, none⟩), .int .i64 to] w fun e w' =>
    e = .returned (.tuple #[fndV (l.find? (toB to)), .bool (l.find? (toB to)).isSome]) ∧ Below w.heap.size w w' := by
  obtain ⟨A, c, hb, hrow⟩ := h.slice
  have HR := Lib.hid hrow
  have c0 := (cell_of_box hb).1
  have c0' := cell_alloc' (.cells #[.int .i64 0, .int .i64 0, .int .i64 0] 100) c0
  have HB := (Below.refl w.heap.size w).alloc (Nat.le_refl _) (.cells #[.int .i64 0, .int .i64 0, .int .i64 0] 100)
  have H4 := Lib.hid (alloc_new w (.cells #[.int .i64 0, .int .i64 0, .int .i64 0] 100))
  clear h hb hrow
  obtain ⟨n, hn⟩ : ∃ n, n = l.length := ⟨_, rfl⟩
  rw [← hn] at hl c0 c0' HR
  have HN := Lib.hid hn; clear hn
  go_enter Tryd.func59, Tryd.ntmps59
  go_wp2_with fail
  go_loopw [7, 13] (fun _ i wr => ∃ k : Nat, k ≤ n ∧ i = .int .i64 (k : Int) ∧ (∀ (j : Nat) (e : En), j < k → l[j]? = some e → toB to e = false) ∧ wr.heap[w.heap.size]? = some (.cells #[.int .i64 0, .int .i64 0, .int .i64 0] 100 (0, 0)) ∧ Below w.heap.size w wr) (fun _ i _ => n - (Go.RowKit.intOf i).toNat)
  case atStart => exact ⟨0, by omega, rfl, fun j e hj => by omega, H4.out, HB⟩
  case round =>
    clear HB H4 c0 c0'
    obtain ⟨k, hk, rfl, hok, h4, HB⟩ := hrel
    have HO := Lib.hid hok; have H4 := Lib.hid h4; clear hok h4
    obtain ⟨⟨q0, q1, q2⟩, z0, z1, z2⟩ := cells3 H4.out
    have l4 := blk_lt H4.out
    by_cases hlt : k < n
    · have k1 : (0 : Int) ≤ (k : Int) := by omega
      have k2 : (k : Int) < (n : Int) := by omega
      obtain ⟨g, rfl, hr⟩ := HR.out (by omega)
      obtain ⟨x, hx⟩ : ∃ x, l[k]? = some x := ⟨l[k]'(by rw [← HN.out]; exact hlt), List.getElem?_eq_getElem _⟩
      obtain ⟨e0, e1, e2⟩ := hr.cells k x hx
      have hgl := hr.lt
      have d0 := (HB.cell (p := ⟨g, k * 3, none⟩) hgl).trans e0
      have d1 := (HB.cell (p := ⟨g, k * 3 + 1, none⟩) hgl).trans e1
      have d2 := (HB.cell (p := ⟨g, k * 3 + 2, none⟩) hgl).trans e2
      have HX := Lib.hid hx; clear hx e0 e1 e2 hr hgl
      by_cases he : x.to = to
      · subst he
        have hf : l.find? (toB x.to) = some x := by
          rw [List.find?_eq_some_iff_getElem]
          obtain ⟨hkl, hxx⟩ := List.getElem?_eq_some_iff.1 HX.out
          refine ⟨by simp [toB], k, hkl, hxx, fun j hj => ?_⟩
          rw [HO.out j _ hj (List.getElem?_eq_getElem (by omega))]; rfl
        have HF := Lib.hid hf; clear hf
        go_wp2_with fail
        have HZ := block_alloc (cells_eq (b := #[.int .i64 x.to, .int .i64 x.size, .int .i64 x.at_]) (block_setCell (k := 2) (v := .int .i64 x.at_) (block_setCell (k := 1) (v := .int .i64 x.size) (block_setCell (k := 0) (v := .int .i64 x.to) H4.out))) rfl) (.cells #[.int .i64 x.to, .int .i64 x.size, .int .i64 x.at_] 100)
        refine bodyPost_ret (v := .tuple #[.agg #[.int .i64 x.to, .int .i64 x.size, .int .i64 x.at_], .bool true]) (res_cell_tmp Tryd.results59 (by exact HZ) rfl Tryd.underlying100 rfl infoEn) rfl ⟨?_, ?_⟩
        · rw [HF.out]; rfl
        · exact below_alloc (Below.setCell (Below.setCell (Below.setCell HB (by simp) _) (by simp) _) (by simp) _)
      · have hne : (x.to == to) = false := beq_eq_false_iff_ne.2 he
        have HE := Lib.hid he; clear he
        go_wp2_with fail
        refine ⟨⟨k + 1, by omega, by go_num, fun j e hj hje => ?_, block_alloc H4.out _, below_alloc HB⟩, by simp [Go.RowKit.intOf]; omega⟩
        rcases Nat.lt_succ_iff_lt_or_eq.1 hj with q | q
        · exact HO.out j e q hje
        · subst q; rw [HX.out] at hje; cases hje; exact decide_eq_false HE.out
    · have HK : Hid (k = n) := Lib.hid (by omega)
      have hz : ¬ (k : Int) < (n : Int) := by omega
      have hf : l.find? (toB to) = none := by
        rw [List.find?_eq_none]
        intro e he
        obtain ⟨j, hj⟩ := List.getElem?_of_mem he
        rw [HO.out j e (by rw [HK.out, HN.out]; exact (List.getElem?_eq_some_iff.1 hj).1) hj]; decide
      have HF := Lib.hid hf; clear hf
      go_wp2_with fail
      have HZ := cells_eq (b := #[.int .i64 0, .int .i64 0, .int .i64 0]) (block_setCell (k := 2) (v := .int .i64 0) (block_setCell (k := 1) (v := .int .i64 0) (block_setCell (k := 0) (v := .int .i64 0) H4.out))) rfl
      refine bodyPost_ret (v := .tuple #[.agg #[.int .i64 0, .int .i64 0, .int .i64 0], .bool false]) (res_cell_tmp Tryd.results59 (by exact HZ) rfl Tryd.underlying100 rfl infoEn) rfl ⟨?_, ?_⟩
      · rw [HF.out]; rfl
      · exact Below.setCell (Below.setCell (Below.setCell HB (by simp) _) (by simp) _) (by simp) _
end Go.Proofs.YtmcfllogcmnnoaaDoor.Ic

namespace Go.Proofs.YtmcfllogcmnnoaaDoor.Ic
set_option maxRecDepth 100000
open Go.RowKit Go.Proofs.YtmcfllogcmnnoaaDoor.Wire

theorem size_any (row : Option Nat) (B : Nat) (l : List En) (now to mtu : Int) (w : World) (h : IsP row B l w) (hk : Kept l) : Calls Tryd.prog 33 #[.pointer (some ⟨B, 0, none⟩), .int .i64 now, .int .i64 to, .int .i64 mtu] w fun e w' =>
    e = .returned (.int .i64 (sizeE l now to mtu)) ∧ Below w.heap.size w w' := by
  have HF := Lib.hid (pfind_any row B l to w h (by have := hk.len; omega))
  unfold sizeE
  cases hf : l.find? (toB to) with
  | none =>
    rw [hf] at HF
    clear h hk hf
    go_enter Tryd.func33, Tryd.ntmps33
    go_wp2_with fail
    refine HF.out.mono ?_
    rintro e w1 ⟨rfl, hb⟩
    unfold fndV
    go_wp2_with fail
    go_ret
    exact ⟨rfl, below_alloc hb⟩
  | some x =>
    rw [hf] at HF
    have hx := hk.ok x (List.mem_of_find?_eq_some hf)
    have HC := Lib.hid fun W => fresh_any x now W ⟨hx.1, hx.2.1⟩
    clear h hk hf hx
    unfold enV at HC
    dsimp only
    generalize freshB now x = fb at *
    go_enter Tryd.func33, Tryd.ntmps33
    go_wp2_with fail
    refine HF.out.mono ?_
    rintro e w1 ⟨rfl, hb⟩
    unfold fndV enV
    have HA := Lib.hid (alloc_new w1 (.cells #[.int .i64 x.to, .int .i64 x.size, .int .i64 x.at_] 100))
    go_wp2_with (go_at_call 58; refine (HC.out _).mono ?_; rintro e w2 ⟨rfl, hb2⟩; obtain ⟨⟨q0, q1, q2⟩, -⟩ := cells3 (bblock hb2 HA.out))
    all_goals
      go_ret
      exact ⟨by first | rfl | (simp; omega), below_call (below_alloc hb) hb2⟩
set_option maxHeartbeats 2000000 in
theorem drop_any (g c : Nat) (l : List En) (w : World) (hl : 1 ≤ l.length) (hc : l.length ≤ c) (hr : RowP w g c 100 (fun i e => l[i]? = some e)) :
    Calls Tryd.prog 61 #[.slice (some ⟨g, 0, none⟩) l.length c, .int .i64 0, .int .i64 1] w fun x w' =>
      x = .returned (.slice (some ⟨g, 0, none⟩) (l.drop 1).length c) ∧ RowP w' g c 100 (fun i e => (l.drop 1)[i]? = some e) ∧ w.grownBy w' (some g) := by
  obtain ⟨i0, hi0, hz1⟩ := Option.map_eq_some_iff.1 infoEn
  have HR := Lib.hid hr; clear hr
  obtain ⟨n, hn⟩ : ∃ n, n = l.length := ⟨_, rfl⟩
  rw [← hn] at hl hc ⊢
  have HN := Lib.hid hn; clear hn
  obtain ⟨news, hnews⟩ : ∃ news, news = enCells (l.drop 1) := ⟨_, rfl⟩
  have hlen : news.length = (n - 1) * 3 := by rw [hnews, enCells_length, List.length_drop, HN.out]
  obtain ⟨A, hA, hsrc⟩ : ∃ A : Addr, (if c = 1 then some (⟨g, 0, none⟩ : Addr) else some ⟨g, 1 * 3, none⟩) = some A ∧ Hid (∀ t u, news[t]? = some u → w.drew.cell? (A.add t) = some u) := by
    by_cases h : c = 1
    · refine ⟨⟨g, 0, none⟩, by simp [h], Lib.hid fun t u hu => ?_⟩
      have h0 : news.length = 0 := by rw [hlen]; omega
      rw [List.length_eq_zero_iff.1 h0] at hu
      simp at hu
    · refine ⟨⟨g, 1 * 3, none⟩, by simp [h], Lib.hid fun t u hu => ?_⟩
      have ht : t < (n - 1) * 3 := by
        have := (List.getElem?_eq_some_iff.1 hu).1
        rwa [hlen] at this
      rw [Addr.add_lit]
      have hx : (l.drop 1)[t / 3]? = some ((l.drop 1)[t / 3]'(by rw [List.length_drop, ← HN.out]; omega)) := List.getElem?_eq_getElem _
      generalize (l.drop 1)[t / 3]'(by rw [List.length_drop, ← HN.out]; omega) = x at hx
      obtain ⟨q0, q1, q2⟩ := enCells_get (l.drop 1) (t / 3) x hx
      rw [List.getElem?_drop] at hx
      obtain ⟨c0, c1, c2⟩ := HR.out.cells (1 + t / 3) x hx
      rw [hnews] at hu
      have ht3 : t % 3 = 0 ∨ t % 3 = 1 ∨ t % 3 = 2 := by omega
      rcases ht3 with e | e | e
      · rw [show t / 3 * 3 = t by omega] at q0
        rw [q0] at hu; cases hu
        rw [show 1 * 3 + t = (1 + t / 3) * 3 by omega]; exact c0
      · rw [show t / 3 * 3 + 1 = t by omega] at q1
        rw [q1] at hu; cases hu
        rw [show 1 * 3 + t = (1 + t / 3) * 3 + 1 by omega]; exact c1
      · rw [show t / 3 * 3 + 2 = t by omega] at q2
        rw [q2] at hu; cases hu
        rw [show 1 * 3 + t = (1 + t / 3) * 3 + 2 by omega]; exact c2
  have s1 : Hid (news.length = (n - 1) * 3) := Lib.hid hlen
  have s2 : Hid (∀ u ∈ news, u.oneCell' = true) := Lib.hid (by rw [hnews]; exact enCells_one _)
  have s3 : Hid (∀ t, t < news.length → (w.drew.cell? ⟨g, 0 + 0 * 3 + t, none⟩).isSome = true ∧ w.drew.frozen? ⟨g, 0 + 0 * 3 + t, none⟩ = false) := Lib.hid (by
    intro t ht
    rw [hlen] at ht
    have := HR.out.drew.any (0 + 0 * 3 + t) (by omega)
    exact this)
  obtain ⟨W1, hW1⟩ : ∃ W1, W1 = w.drew.setCells g (0 + 0 * 3) news := ⟨_, rfl⟩
  have hH1 : Hid (RowP W1 g c 100 (fun i e => (l.drop 1)[i]? = some e)) := Lib.hid (by
    rw [hW1, hnews]
    exact HR.out.drew.lay (l.drop 1) (by rw [List.length_drop, ← HN.out]; omega))
  have HG1 : w.grownBy W1 (some g) := by rw [hW1]; exact only_setCells _ _ (only_drew (only_refl w g))
  have hcl : ∀ ty, (Builtin.clear_ #[95] ty #[.slice (some ⟨g, (n - 1) * 3, none⟩) (n - (n - 1)) (c - (n - 1))]).run Tryd.prog W1 = .ok (.tuple #[]) (W1.setCells g ((n - 1) * 3) (Builtin.zeroCells #[.int .i64 0, .int .i64 0, .int .i64 0] (n - (n - 1))).toList) :=
    fun ty => run_clear_three W1 _ _ ty Tryd.underlying95 Tryd.zeroValue100 g ((n - 1) * 3) (n - (n - 1)) (c - (n - 1)) (by omega) (fun j hj => (hH1.out.any ((n - 1) * 3 + j) (by omega)).1) (fun j hj => hH1.out.froz ((n - 1) * 3 + j))
  have hW : Hid (W1 = w.drew.setCells g (0 + 0 * 3) news) := Lib.hid hW1
  have n1 : (1 : Int) ≤ (n : Int) := by omega
  have n2 : (n : Int) ≤ (c : Int) := by omega
  have n3 : ¬ (n : Int) < 1 := by omega
  clear hW1 hnews hlen
  go_enter Tryd.func61, Tryd.ntmps61
  go_wp2_with fail
  go_region_law (refine step_append_room rfl (.tmp 22) (.tmp 25) 95 rfl 100 i0 3 Tryd.underlying95 hi0 hz1 g 0 0 c (by simp [Act.eval, Act.put]) A (n - 1) (c - 1) news (by simp [Act.eval, Act.put]) s1.out hsrc.out s2.out (by omega) s3.out ?_; rw [← hW.out])
  go_wp2_with fail
  go_ret
  have hlen : (l.drop 1).length = n - 1 := by rw [List.length_drop, HN.out]
  refine ⟨by rw [hlen]; rfl, hH1.out.setCells (n - 1) _ fun j x hx => ⟨hx, ?_⟩, only_setCells _ _ HG1⟩
  rw [← hlen]; exact (List.getElem?_eq_some_iff.1 hx).1
end Go.Proofs.YtmcfllogcmnnoaaDoor.Ic

namespace Go.Proofs.YtmcfllogcmnnoaaDoor.Ic
set_option maxRecDepth 100000
open Go.RowKit Go.Proofs.YtmcfllogcmnnoaaDoor.Wire

/-- only the table's box B and its row have changed, and what is new -/
structure Ch (B : Nat) (row : Option Nat) (w w' : World) : Prop where
  os : w'.os = w.os
  tape : w'.tape = w.tape
  output : w'.output = w.output
  size : w.heap.size ≤ w'.heap.size
  block : ∀ k, k < w.heap.size → k ≠ B → row ≠ some k → w'.heap[k]? = w.heap[k]?
theorem Ch.refl (B : Nat) (row : Option Nat) (w : World) : Ch B row w w := ⟨rfl, rfl, rfl, Nat.le_refl _, fun _ _ _ _ => rfl⟩
theorem Ch.of_below {B : Nat} {row : Option Nat} {w w' : World} (h : Below w.heap.size w w') : Ch B row w w' := ⟨h.os, h.tape, h.output, h.size, fun k hk _ _ => h.block k hk⟩
theorem Ch.of_grown {B : Nat} {row : Option Nat} {w w' : World} (h : w.grownBy w' row) : Ch B row w w' := ⟨h.os, h.tape, h.output, h.size, fun k hk _ hr => h.block k hk (fun e => hr e.symm)⟩
theorem Ch.trans {B : Nat} {row row' : Option Nat} {w w1 w2 : World} (h : Ch B row w w1) (k : Ch B row' w1 w2) (hr : row' = row ∨ ∃ g, row' = some g ∧ w.heap.size ≤ g) : Ch B row w w2 :=
  ⟨k.os.trans h.os, k.tape.trans h.tape, k.output.trans h.output, Nat.le_trans h.size k.size, fun i hi hB hi2 => (k.block i (Nat.lt_of_lt_of_le hi h.size) hB (fun e => by
    rcases hr with rfl | ⟨g, rfl, hg⟩
    · exact hi2 e
    · cases e; omega)).trans (h.block i hi hB hi2)⟩
theorem Ch.below {B : Nat} {row : Option Nat} {w w1 w2 : World} (h : Ch B row w w1) (k : Below w1.heap.size w1 w2) : Ch B row w w2 := h.trans (.of_below (row := row) k) (.inl rfl)
theorem Ch.set {B : Nat} {row : Option Nat} {w w1 : World} (h : Ch B row w w1) (o : Nat) (v : Value) : Ch B row w (w1.setCell ⟨B, o, none⟩ v) :=
  ⟨h.os, h.tape, h.output, by simpa [World.setCell] using h.size, fun i hi hB hi2 => (Below.heap_setCell w1 ⟨B, o, none⟩ v i hB).trans (h.block i hi hB hi2)⟩
theorem Ch.kept {B : Nat} {row : Option Nat} {w w' : World} (h : Ch B row w w') {k : Nat} {o : Obj} (hk : w.heap[k]? = some o) (h1 : k ≠ B) (h2 : row ≠ some k) : w'.heap[k]? = some o := (h.block k (blk_lt hk) h1 h2).trans hk
theorem Ch.toBelow {b0 B : Nat} {row : Option Nat} {w w' : World} (h : Ch B row w w') (h1 : b0 ≤ B) (h2 : ∀ g, row = some g → b0 ≤ g) (h3 : b0 ≤ w.heap.size) : Below b0 w w' :=
  ⟨h.os, h.tape, h.output, h.size, fun k hk => h.block k (by omega) (by omega) (fun e => by have := h2 k e; omega)⟩
theorem index_nil (fn : Value) (w : World) : Calls Tryd.prog 81 #[.slice none 0 0, fn] w fun x w' => x = .returned (.int .i64 (-1)) ∧ Below w.heap.size w w' := by
  have HB := Below.refl w.heap.size w
  go_enter Tryd.func81, Tryd.ntmps81
  go_wp2_with fail
  go_loopw [8] (fun i wr => i = .int .i64 0 ∧ Below w.heap.size w wr) (fun i _ => 1 - (Go.RowKit.intOf i).toNat)
  case atStart => exact ⟨rfl, HB⟩
  case round =>
    clear HB
    obtain ⟨rfl, HB⟩ := hrel
    go_wp2_with fail
    go_ret
    exact ⟨rfl, HB⟩
theorem delete_nil (fn : Nat) (lb : Array Value) (w : World) : Calls Tryd.prog 56 #[.slice none 0 0, .func (.func fn) #[] lb] w fun x w' => x = .returned (.slice none 0 0) ∧ Below w.heap.size w w' := by
  have HI := Lib.hid (index_nil (.func (.func fn) #[] lb) w)
  go_enter Tryd.func56, Tryd.ntmps56
  go_wp2_with fail
  refine HI.out.mono ?_
  rintro e w1 ⟨rfl, hb⟩
  go_wp2_with fail
  go_ret
  exact ⟨rfl, hb⟩
/-- the function value answers the test p, whatever has become of the row -/
def TestsO (fn : Nat) (lb : Array Value) (p : En → Bool) (row : Option Nat) (l : List En) (w : World) : Prop := ∀ g, row = some g → Tests fn lb p g l w
theorem delete_o (fn : Nat) (lb : Array Value) (eg : ∀ args w, (callFunc fn args).run Tryd.prog w = .ok (.enter fn args) w) (p : En → Bool) (row : Option Nat) (A : Option Addr) (c : Nat) (l : List En) (w : World) (hl : l.length ≤ 1000000)
    (hr : SlP row A c l w) (hp : TestsO fn lb p row l w) :
    Calls Tryd.prog 56 #[.slice A l.length c, .func (.func fn) #[] lb] w fun x w' =>
      x = .returned (.slice A (keepL p l).length c) ∧ SlP row A c (keepL p l) w' ∧ w.grownBy w' row := by
  cases row with
  | none =>
    obtain ⟨rfl, rfl, rfl⟩ := hr
    refine (delete_nil fn lb w).mono ?_
    rintro e w' ⟨rfl, hb⟩
    exact ⟨rfl, ⟨rfl, rfl, rfl⟩, ⟨hb.os, hb.tape, hb.output, hb.size, fun k hk _ => hb.block k hk⟩⟩
  | some g =>
    obtain ⟨rfl, h2, h3, h4⟩ := hr
    refine (delete_any fn lb eg p g c l w h3 hl h2 (hp g rfl)).mono ?_
    rintro e w' ⟨rfl, hr', hg⟩
    exact ⟨rfl, ⟨rfl, hr', Nat.le_trans (List.length_filter_le _ _) h3, h4⟩, hg⟩
theorem drop_o (row : Option Nat) (A : Option Addr) (c : Nat) (l : List En) (w : World) (hl : 1 ≤ l.length) (hr : SlP row A c l w) :
    Calls Tryd.prog 61 #[.slice A l.length c, .int .i64 0, .int .i64 1] w fun x w' =>
      x = .returned (.slice A (l.drop 1).length c) ∧ SlP row A c (l.drop 1) w' ∧ w.grownBy w' row := by
  cases row with
  | none => obtain ⟨rfl, rfl, rfl⟩ := hr; simp at hl
  | some g =>
    obtain ⟨rfl, h2, h3, h4⟩ := hr
    refine (drop_any g c l w hl h3 h2).mono ?_
    rintro e w' ⟨rfl, hr', hg⟩
    exact ⟨rfl, ⟨rfl, hr', by rw [List.length_drop]; omega, h4⟩, hg⟩
/-- a row as the library's words have it, and back -/
theorem SlP.owns {row : Option Nat} {A : Option Addr} {c : Nat} {l : List En} {W : World} (h : SlP row A c l W) : W.ownsRow 0 100 3 (.slice A l.length c) l.length (enCells l) ∧ (Value.slice A l.length c).ownBlock = row := by
  cases row with
  | none => obtain ⟨rfl, rfl, rfl⟩ := h; exact ⟨World.ownsRow_nil _ _ _ _, rfl⟩
  | some g =>
    obtain ⟨rfl, ⟨cur, h1, h2, h3⟩, h4, h5⟩ := h
    refine ⟨⟨enCells_length l, .inr ⟨g, c, cur, rfl, Nat.zero_le _, h1, h4, h5, h2, ?_⟩⟩, rfl⟩
    apply List.ext_getElem?
    intro t
    by_cases ht : t < l.length * 3
    · rw [List.getElem?_take_of_lt ht, Array.getElem?_toList]
      obtain ⟨x, hx⟩ : ∃ x, l[t / 3]? = some x := ⟨l[t / 3]'(by omega), List.getElem?_eq_getElem _⟩
      obtain ⟨-, c0, c1, c2⟩ := h3 (t / 3) x hx
      obtain ⟨q0, q1, q2⟩ := enCells_get l (t / 3) x hx
      have ht3 : t % 3 = 0 ∨ t % 3 = 1 ∨ t % 3 = 2 := by omega
      rcases ht3 with e | e | e
      · rw [show t / 3 * 3 = t by omega] at q0 c0
        rw [q0, c0]
      · rw [show t / 3 * 3 + 1 = t by omega] at q1 c1
        rw [q1, c1]
      · rw [show t / 3 * 3 + 2 = t by omega] at q2 c2
        rw [q2, c2]
    · rw [List.getElem?_eq_none (by rw [List.length_take]; omega), List.getElem?_eq_none (by rw [enCells_length]; omega)]
theorem slP_of_owns {g c n : Nat} {l : List En} {W : World} (hn : n = l.length) (h : W.ownsRow 0 100 3 (.slice (some ⟨g, 0, none⟩) n c) n (enCells l)) : SlP (some g) (some ⟨g, 0, none⟩) c l W := by
  subst hn
  rcases h.2 with ⟨hv, -⟩ | ⟨g', c', cur, hv, -, h1, h2, h3, h4, h5⟩
  · cases hv
  · cases hv
    refine ⟨rfl, ⟨cur, h1, h4, fun i e he => ?_⟩, h2, h3⟩
    have hi : i < l.length := (List.getElem?_eq_some_iff.1 he).1
    obtain ⟨q0, q1, q2⟩ := enCells_get l i e he
    rw [← h5] at q0 q1 q2
    rw [List.getElem?_take_of_lt (by omega), Array.getElem?_toList] at q0 q1 q2
    exact ⟨by omega, q0, q1, q2⟩
theorem enCells_snoc (l : List En) (e : En) : enCells (l ++ [e]) = enCells l ++ [.int .i64 e.to, .int .i64 e.size, .int .i64 e.at_] := by simp [enCells]
end Go.Proofs.YtmcfllogcmnnoaaDoor.Ic

namespace Go.Proofs.YtmcfllogcmnnoaaDoor.Ic
set_option maxRecDepth 100000
open Go.RowKit Go.Proofs.YtmcfllogcmnnoaaDoor.Wire

theorem adrValid_any (a : Int) (w : World) : Calls Tryd.prog 55 #[.int .i64 a] w fun e w' => e = .returned (.bool (decide (0 ≤ a ∧ a ≤ 4294967295))) ∧ Below w.heap.size w w' := by
  by_cases h0 : 0 ≤ a
  · by_cases h1 : a ≤ 4294967295
    · have e : decide (0 ≤ a ∧ a ≤ 4294967295) = true := decide_eq_true ⟨h0, h1⟩
      rw [e]; clear e
      go_enter Tryd.func55, Tryd.ntmps55
      go_wp2
      go_ret
      exact ⟨rfl, Below.refl _ _⟩
    · have e : decide (0 ≤ a ∧ a ≤ 4294967295) = false := decide_eq_false (fun h => h1 h.2)
      rw [e]; clear e
      go_enter Tryd.func55, Tryd.ntmps55
      go_wp2
      go_ret
      exact ⟨rfl, Below.refl _ _⟩
  · have e : decide (0 ≤ a ∧ a ≤ 4294967295) = false := decide_eq_false (fun h => h0 h.1)
    rw [e]; clear e
    go_enter Tryd.func55, Tryd.ntmps55
    go_wp2
    go_ret
    exact ⟨rfl, Below.refl _ _⟩
theorem lower_no (B : Nat) (now to size : Int) (w : World) (h : ¬ lowOk now to size) :
    Calls Tryd.prog 30 #[.pointer (some ⟨B, 0, none⟩), .int .i64 now, .int .i64 to, .int .i64 size] w fun e w' => e = .returned (.bool false) ∧ Below w.heap.size w w' := by
  have HB := below_alloc (o := .cells #[.int .i64 now] 3) (Below.refl w.heap.size w)
  have HN := (cell_new w (.int .i64 now) 3).1
  have HV := Lib.hid fun W => adrValid_any to W
  by_cases h1 : now < 0
  · go_enter Tryd.func30, Tryd.ntmps30
    go_wp2_with fail
    go_ret
    exact ⟨rfl, HB⟩
  by_cases h2 : 1000000000 < now
  · go_enter Tryd.func30, Tryd.ntmps30
    go_wp2_with fail
    go_ret
    exact ⟨rfl, HB⟩
  by_cases h3 : 0 ≤ to ∧ to ≤ 4294967295
  · rw [decide_eq_true h3] at HV
    have h4 : size < 68 ∨ 1024 < size := by unfold lowOk at h; omega
    clear h h3
    rcases h4 with h4 | h4
    · go_enter Tryd.func30, Tryd.ntmps30
      go_wp2_with fail
      refine (HV.out _).mono ?_
      rintro e w2 ⟨rfl, hb⟩
      go_wp2_with fail
      go_ret
      exact ⟨rfl, below_call HB hb⟩
    · have h5 : ¬ size < 68 := by omega
      go_enter Tryd.func30, Tryd.ntmps30
      go_wp2_with fail
      refine (HV.out _).mono ?_
      rintro e w2 ⟨rfl, hb⟩
      go_wp2_with fail
      go_ret
      exact ⟨rfl, below_call HB hb⟩
  · rw [decide_eq_false h3] at HV
    clear h h3
    go_enter Tryd.func30, Tryd.ntmps30
    go_wp2_with fail
    refine (HV.out _).mono ?_
    rintro e w2 ⟨rfl, hb⟩
    go_wp2_with fail
    go_ret
    exact ⟨rfl, below_call HB hb⟩
end Go.Proofs.YtmcfllogcmnnoaaDoor.Ic

namespace Go.Proofs.YtmcfllogcmnnoaaDoor.Ic
set_option maxRecDepth 100000
open Go.RowKit Go.Proofs.YtmcfllogcmnnoaaDoor.Wire

theorem infoEnt : (Tryd.prog.info? 100).map (fun i => (i.zero, i.size, i.bytes)) = some (some (.agg #[.int .i64 0, .int .i64 0, .int .i64 0]), 3, 24) := by kernel_rfl
theorem keep_fresh (now : Int) (l : List En) : keepL (fun e => !freshB now e) l = l.filter (freshB now) := by
  unfold keepL
  congr 1
  funext e
  simp
/-- what Lower leaves -/
def LowPost (row : Option Nat) (B : Nat) (b : Bool) (l : List En) (w : World) (e : Ending) (w' : World) : Prop :=
  e = .returned (.bool b) ∧ ∃ row', IsP row' B l w' ∧ (row' = row ∨ ∃ g, row' = some g ∧ w.heap.size ≤ g) ∧ Ch B row w w'
/-- the slice is stored anew -/
theorem isP_store {row : Option Nat} {B c : Nat} {A : Option Addr} {l l' : List En} {w w1 : World} (h0 : row ≠ some B) (h1 : w.heap[B]? = some (.cells #[.slice A l.length c] 97 (0, 0))) (hg : w.grownBy w1 row) (hs : SlP row A c l' w1) :
    IsP row B l' (w1.setCell ⟨B, 0, none⟩ (.slice A l'.length c)) := by
  have h2 : w1.heap[B]? = some (.cells #[.slice A l.length c] 97 (0, 0)) := (hg.block B (blk_lt h1) (fun e => h0 e.symm)).trans h1
  refine ⟨h0, A, c, cells_eq (block_setCell (k := 0) (v := .slice A l'.length c) h2) rfl, hs.keep fun g hg' => ?_⟩
  subst hg'
  exact Below.heap_setCell w1 ⟨B, 0, none⟩ (.slice A l'.length c) g (fun e => h0 (by rw [e]))
set_option maxHeartbeats 8000000 in
theorem lower_yes (row : Option Nat) (B : Nat) (l : List En) (now to size : Int) (w : World) (h : lowOk now to size) (hp : IsP row B l w) (hk : Kept l) :
    Calls Tryd.prog 30 #[.pointer (some ⟨B, 0, none⟩), .int .i64 now, .int .i64 to, .int .i64 size] w (LowPost row B (lowB l now to size) (lowL l now to size) w) := by
  have HK := Lib.hid hk; have HKf := Lib.hid (kept_filter hk (freshB now))
  have hV := fun W => adrValid_any to W
  rw [decide_eq_true h.2.1] at hV
  have HV := Lib.hid hV; clear hV
  obtain ⟨⟨n0, n1⟩, -, s0, s1⟩ := id h
  have HOK := Lib.hid h; clear h
  have hN0 := alloc_new w (.cells #[.int .i64 now] 3)
  have HP0 := Lib.hid (hp.below ((Below.refl _ _).alloc (Nat.le_refl _) (.cells #[.int .i64 now] 3)))
  have HC0 := Ch.of_below (B := B) (row := row) (below_alloc (o := .cells #[.int .i64 now] 3) (Below.refl w.heap.size w))
  have hNB : B ≠ w.heap.size := by have := hp.lt; omega
  have hNr : some w.heap.size ≠ row := fun e => by
    obtain ⟨-, A, c, -, hs⟩ := hp
    have := hs.lt _ e.symm; omega
  have HN0 := Lib.hid hN0; clear hN0 hp hk
  have hl16 := HK.out.len
  go_enter Tryd.func30, Tryd.ntmps30
  go_wp2_with fail
  refine (HV.out _).mono ?_
  rintro e w1 ⟨rfl, hb⟩
  have HP1 := Lib.hid (HP0.out.below hb); have HC1 := HC0.below hb; have HN1 := Lib.hid (bblock hb HN0.out)
  clear HP0 HC0 HN0 hb
  obtain ⟨N, hN⟩ : ∃ N, N = w.heap.size := ⟨_, rfl⟩
  rw [← hN] at HN1 hNB hNr ⊢
  have hNw : w.heap.size ≤ N := by omega
  clear hN
  obtain ⟨h01, A1, c1, hb1, hs1⟩ := HP1.out
  have q1 := (cell_of_box hb1).1; have z1 := (cell_of_box hb1).2; have lt1 := blk_lt hb1
  have HB1 := Lib.hid hb1
  have HT : Hid (TestsO 57 #[.pointer (some ⟨N, 0, none⟩)] (fun e => !freshB now e) row l w1) := Lib.hid fun g hg => old_tests N g now l w1 HN1.out (fun e => hNr (by rw [hg, e])) (fun e he => by have := HK.out.ok e he; exact ⟨this.1, this.2.1⟩)
  have HD := Lib.hid (delete_o 57 #[.pointer (some ⟨N, 0, none⟩)] (enters_of Tryd.func57 (by kernel_rfl) rfl) (fun e => !freshB now e) row A1 c1 l w1 (by omega) hs1 HT.out)
  rw [keep_fresh] at HD
  clear hb1 hs1 HT
  go_wp2_with fail
  refine HD.out.mono ?_
  rintro e w2 ⟨rfl, hsl, hg⟩
  have HP2 := Lib.hid (isP_store h01 HB1.out hg hsl)
  have HC2 := (HC1.trans (.of_grown hg) (.inl rfl)).set 0 (.slice A1 (l.filter (freshB now)).length c1)
  have HN2 := Lib.hid (block_set_other (a := ⟨B, 0, none⟩) (u := .slice A1 (l.filter (freshB now)).length c1) ((hg.block N (blk_lt HN1.out) hNr).trans HN1.out) hNB)
  have qB := (cell_of_box ((hg.block B lt1 (fun e => h01 e.symm)).trans HB1.out)).1; have zB := (cell_of_box ((hg.block B lt1 (fun e => h01 e.symm)).trans HB1.out)).2
  go_upto_region 6 with fail
  generalize w2.setCell ⟨B, 0, none⟩ (.slice A1 (l.filter (freshB now)).length c1) = W2 at *
  clear HP1 HB1 q1 z1 lt1 qB zB hsl hg HC1 HN1 HD
  obtain ⟨m, hm⟩ : ∃ m, m = l.filter (freshB now) := ⟨_, rfl⟩
  rw [← hm] at HP2 HKf
  have HM := Lib.hid hm; clear hm
  have HF := Lib.hid (pfind_any row B m to W2 HP2.out (by have := HKf.out.len; omega))
  have hm16 : m.length ≤ 16 := HKf.out.len
  cases hf : m.find? (toB to) with
  | none =>
    rw [hf] at HF
    have HR : Hid (lowB l now to size = true ∧ lowL l now to size = pushE m ⟨to, size, now⟩) := Lib.hid (by
      unfold lowB lowL
      rw [if_pos HOK.out, if_pos HOK.out, ← HM.out, hf]
      exact ⟨rfl, rfl⟩)
    clear hf
    go_wp2_with fail
    refine HF.out.mono ?_
    rintro e w3 ⟨rfl, hb⟩
    unfold fndV
    go_upto_region 11 with fail
    have HB0 := (below_alloc (o := .cells #[.int .i64 0, .int .i64 0, .int .i64 0] 100) (Below.refl w3.heap.size w3))
    have hb' := below_call hb HB0
    have HP3 := Lib.hid (HP2.out.below hb'); have HC := HC2.below hb'; have HN := Lib.hid (bblock hb' HN2.out)
    clear HP2 HC2 HN2 hb HB0 hb' HF
    generalize World.alloc w3 (.cells #[.int .i64 0, .int .i64 0, .int .i64 0] 100) = W3 at *
    obtain ⟨h03, A3, c3, hb3, hs3⟩ := HP3.out
    have q3 := (cell_of_box hb3).1; have z3 := (cell_of_box hb3).2; have lt3 := blk_lt hb3
    have HB3 := Lib.hid hb3; have HS3 := Lib.hid hs3; clear hb3 hs3
    by_cases h16 : 16 ≤ m.length
    · have HE : Hid (lowL l now to size = m.drop 1 ++ [⟨to, size, now⟩]) := Lib.hid (HR.out.2.trans (show pushE m ⟨to, size, now⟩ = m.drop 1 ++ [⟨to, size, now⟩] by unfold pushE; rw [if_pos h16]))
      have HD := Lib.hid (drop_o row A3 c3 m W3 (by omega) HS3.out)
      have h16z : (16 : Int) ≤ (m.length : Int) := by omega
      go_wp2_with fail
      refine HD.out.mono ?_
      rintro e v1 ⟨he, hsl, hg⟩
      have hld : (m.drop 1).length = m.length - 1 := List.length_drop
      rw [hld] at he
      subst he
      have hps := isP_store h03 HB3.out hg hsl
      rw [hld] at hps
      have HP' := Lib.hid hps; clear hps hld
      have HC' := (HC.trans (.of_grown hg) (.inl rfl)).set 0 (.slice A3 (m.length - 1) c3)
      have HN' := Lib.hid (block_set_other (a := ⟨B, 0, none⟩) (u := .slice A3 (m.length - 1) c3) ((hg.block N (blk_lt HN.out) hNr).trans HN.out) hNB)
      have qB := (cell_of_box ((hg.block B lt3 (fun e => h03 e.symm)).trans HB3.out)).1; have zB := (cell_of_box ((hg.block B lt3 (fun e => h03 e.symm)).trans HB3.out)).2
      go_upto_region 13 with fail
      generalize v1.setCell ⟨B, 0, none⟩ (.slice A3 (m.length - 1) c3) = W9 at *
      clear HP3 HB3 HS3 q3 z3 qB zB hsl hg HC HN
      obtain ⟨hp0, A9, c9, hb9, hs9⟩ := HP'.out
      have q9 := (cell_of_box hb9).1; have z9 := (cell_of_box hb9).2; have lt9 := blk_lt hb9
      have qn := (cell_of_box HN'.out).1
      have HB9 := Lib.hid hb9; clear hb9
      obtain ⟨hown, hobk⟩ := hs9.owns
      have hl16 : (m.drop 1).length ≤ 16 := by first | exact hm16 | (rw [List.length_drop]; omega)
      obtain ⟨m9, hm9⟩ : ∃ m9, m9 = m.drop 1 := ⟨_, rfl⟩
      rw [← hm9] at hown hobk hl16 q9 HB9 HE
      have HM9 := Lib.hid hm9
      have Hown := Lib.hid hown; have Hobk := Lib.hid hobk; clear hown hobk hs9 hm9 HM9
      obtain ⟨i0, hi, hz0, hz1, hz2⟩ := info_parts infoEnt
      have HNW := Lib.hid (blk_lt HN'.out)
      go_region_law (refine step_append_lies _ (by rfl) _ _ _ (by rfl) 0 100 i0 (.agg #[.int .i64 0, .int .i64 0, .int .i64 0]) 3 24 Tryd.underlying95 hi hz0 hz1 hz2 rfl (by decide) (.slice A9 m9.length c9) m9.length _ (by rfl) (Hown.out.alloc _) ⟨W9.heap.size, 0, none⟩ 1 1 [.int .i64 to, .int .i64 size, .int .i64 now] (by rfl) rfl (World.news_of_block (heap_alloc_new W9 _)) (by simp [Value.oneCell']) (by omega) (by unfold maxLen; omega) (by omega) (by simp) (W9.heap.size + 1) (by simp) ?_; intro g cap x3 hown3 hgrow3 hat3 hlt3; rw [Hobk.out] at hgrow3 hat3; have hB3 := (hgrow3.block B (blk_lt (block_alloc HB9.out _)) (fun e => hp0 e.symm)).trans (block_alloc HB9.out _); have q3 := (cell_of_box hB3).1; have z3 := (cell_of_box hB3).2)
      all_goals
        go_wp2_with fail
        go_ret
        have hsz3 := hgrow3.size
        have hszA : (W9.alloc (.cells #[.int .i64 to, .int .i64 size, .int .i64 now] 100)).heap.size = W9.heap.size + 1 := by simp
        have hwW := HC'.size
        have hgB : (some g : Option Nat) ≠ some B := fun e => by
          have e := Option.some.inj e
          rcases hat3 with q | q
          · exact hp0 (by rw [q, e])
          · omega
        refine ⟨by rw [HR.out.1]; rfl, some g, ?_, ?_, ?_⟩
        · rw [HE.out]
          refine ⟨hgB, some ⟨g, 0, none⟩, cap, cells_eq (block_setCell (k := 0) (v := .slice (some ⟨g, 0, none⟩) (m9.length + 1) cap) hB3) (by simp), (slP_of_owns (n := m9.length + 1) (by simp) (by rw [enCells_snoc]; exact hown3)).keep fun g' hg' => ?_⟩
          cases hg'
          exact Below.heap_setCell x3 ⟨B, 0, none⟩ _ g (fun e => hgB (by rw [e]))
        · rcases hat3 with q | q
          · exact .inl q.symm
          · exact .inr ⟨g, rfl, by omega⟩
        · exact ((HC'.below (below_alloc (Below.refl _ _).drew)).trans (.of_grown hgrow3) (.inl rfl)).set 0 _
    · have HE : Hid (lowL l now to size = m ++ [⟨to, size, now⟩]) := Lib.hid (HR.out.2.trans (show pushE m ⟨to, size, now⟩ = m ++ [⟨to, size, now⟩] by unfold pushE; rw [if_neg h16]))
      have h16z : ¬ (16 : Int) ≤ (m.length : Int) := by omega
      go_upto_region 13 with fail
      have HP' := HP3; have HC' := HC; have HN' := HN
      clear HP3 HB3 HS3 q3 z3 HC HN
      obtain ⟨hp0, A9, c9, hb9, hs9⟩ := HP'.out
      have q9 := (cell_of_box hb9).1; have z9 := (cell_of_box hb9).2; have lt9 := blk_lt hb9
      have qn := (cell_of_box HN'.out).1
      have HB9 := Lib.hid hb9; clear hb9
      obtain ⟨hown, hobk⟩ := hs9.owns
      have hl16 : (m).length ≤ 16 := by first | exact hm16 | (rw [List.length_drop]; omega)
      obtain ⟨m9, hm9⟩ : ∃ m9, m9 = m := ⟨_, rfl⟩
      rw [← hm9] at hown hobk hl16 q9 HB9 HE
      have HM9 := Lib.hid hm9
      have Hown := Lib.hid hown; have Hobk := Lib.hid hobk; clear hown hobk hs9 hm9 HM9
      obtain ⟨i0, hi, hz0, hz1, hz2⟩ := info_parts infoEnt
      have HNW := Lib.hid (blk_lt HN'.out)
      go_region_law (refine step_append_lies _ (by rfl) _ _ _ (by rfl) 0 100 i0 (.agg #[.int .i64 0, .int .i64 0, .int .i64 0]) 3 24 Tryd.underlying95 hi hz0 hz1 hz2 rfl (by decide) (.slice A9 m9.length c9) m9.length _ (by rfl) (Hown.out.alloc _) ⟨W3.heap.size, 0, none⟩ 1 1 [.int .i64 to, .int .i64 size, .int .i64 now] (by rfl) rfl (World.news_of_block (heap_alloc_new W3 _)) (by simp [Value.oneCell']) (by omega) (by unfold maxLen; omega) (by omega) (by simp) (W3.heap.size + 1) (by simp) ?_; intro g cap x3 hown3 hgrow3 hat3 hlt3; rw [Hobk.out] at hgrow3 hat3; have hB3 := (hgrow3.block B (blk_lt (block_alloc HB9.out _)) (fun e => hp0 e.symm)).trans (block_alloc HB9.out _); have q3 := (cell_of_box hB3).1; have z3 := (cell_of_box hB3).2)
      all_goals
        go_wp2_with fail
        go_ret
        have hsz3 := hgrow3.size
        have hszA : (W3.alloc (.cells #[.int .i64 to, .int .i64 size, .int .i64 now] 100)).heap.size = W3.heap.size + 1 := by simp
        have hwW := HC'.size
        have hgB : (some g : Option Nat) ≠ some B := fun e => by
          have e := Option.some.inj e
          rcases hat3 with q | q
          · exact hp0 (by rw [q, e])
          · omega
        refine ⟨by rw [HR.out.1]; rfl, some g, ?_, ?_, ?_⟩
        · rw [HE.out]
          refine ⟨hgB, some ⟨g, 0, none⟩, cap, cells_eq (block_setCell (k := 0) (v := .slice (some ⟨g, 0, none⟩) (m9.length + 1) cap) hB3) (by simp), (slP_of_owns (n := m9.length + 1) (by simp) (by rw [enCells_snoc]; exact hown3)).keep fun g' hg' => ?_⟩
          cases hg'
          exact Below.heap_setCell x3 ⟨B, 0, none⟩ _ g (fun e => hgB (by rw [e]))
        · rcases hat3 with q | q
          · exact .inl q.symm
          · exact .inr ⟨g, rfl, by omega⟩
        · exact ((HC'.below (below_alloc (Below.refl _ _).drew)).trans (.of_grown hgrow3) (.inl rfl)).set 0 _
  | some o =>
    rw [hf] at HF
    by_cases q : o.size ≤ size
    · have HR : Hid (lowB l now to size = false ∧ lowL l now to size = m) := Lib.hid (by
        unfold lowB lowL
        rw [if_pos HOK.out, if_pos HOK.out, ← HM.out, hf]
        exact ⟨decide_eq_false (by omega), if_pos q⟩)
      clear hf
      go_wp2_with fail
      refine HF.out.mono ?_
      rintro e w3 ⟨rfl, hb⟩
      unfold fndV enV
      go_wp2_with fail
      go_ret
      have hb' := below_alloc (o := .cells #[.int .i64 o.to, .int .i64 o.size, .int .i64 o.at_] 100) hb
      exact ⟨by rw [HR.out.1]; rfl, row, by rw [HR.out.2]; exact HP2.out.below hb', .inl rfl, HC2.below hb'⟩
    · have HR : Hid (lowB l now to size = true ∧ lowL l now to size = pushE (m.filter (fun e => !decide (e = o))) ⟨to, size, now⟩) := Lib.hid (by
        unfold lowB lowL
        rw [if_pos HOK.out, if_pos HOK.out, ← HM.out, hf]
        exact ⟨decide_eq_true (by omega), if_neg q⟩)
      clear hf
      go_wp2_with fail
      refine HF.out.mono ?_
      rintro e w3 ⟨rfl, hb⟩
      unfold fndV enV
      have hb' := below_alloc (o := .cells #[.int .i64 o.to, .int .i64 o.size, .int .i64 o.at_] 100) hb
      have HO3 := Lib.hid (alloc_new w3 (.cells #[.int .i64 o.to, .int .i64 o.size, .int .i64 o.at_] 100))
      have HP3 := Lib.hid (HP2.out.below hb'); have HC3 := HC2.below hb'; have HN3 := Lib.hid (bblock hb' HN2.out)
      obtain ⟨h03, A3, c3, hb3, hs3⟩ := HP3.out
      have lt2 := HP2.out.lt
      have hO : some w3.heap.size ≠ row := fun e => by
        obtain ⟨-, A, c, -, hs⟩ := HP2.out
        have := hs.lt _ e.symm
        have := hb.size
        omega
      have hOB : B ≠ w3.heap.size := by have := hb.size; omega
      have q3 := (cell_of_box hb3).1; have z3 := (cell_of_box hb3).2; have lt3 := blk_lt hb3
      have HB3 := Lib.hid hb3
      have HT : Hid (TestsO 60 #[.pointer (some ⟨w3.heap.size, 0, none⟩)] (fun e => decide (e = o)) row m (w3.alloc (.cells #[.int .i64 o.to, .int .i64 o.size, .int .i64 o.at_] 100))) := Lib.hid fun g hg => same_tests w3.heap.size g o m _ HO3.out (fun e => hO (by rw [hg, e]))
      have HD := Lib.hid (delete_o 60 #[.pointer (some ⟨w3.heap.size, 0, none⟩)] (enters_of Tryd.func60 (by kernel_rfl) rfl) (fun e => decide (e = o)) row A3 c3 m _ (by omega) hs3 HT.out)
      obtain ⟨m2, hm2⟩ : ∃ m2, m2 = m.filter (fun e => !decide (e = o)) := ⟨_, rfl⟩
      have hk2 : keepL (fun e => decide (e = o)) m = m2 := hm2.symm
      have hl2 : m2.length ≤ 16 := by rw [hm2]; exact Nat.le_trans (List.length_filter_le _ _) hm16
      rw [hk2] at HD
      rw [← hm2] at HR
      clear hm2 hk2 hb3 hs3 HT hb' HP2 HC2 HN2 hb HF HO3
      go_wp2_with fail
      refine HD.out.mono ?_
      rintro e w4 ⟨rfl, hsl, hg⟩
      have HP4 := Lib.hid (isP_store h03 HB3.out hg hsl)
      have HC := (HC3.trans (.of_grown hg) (.inl rfl)).set 0 (.slice A3 m2.length c3)
      have HN := Lib.hid (block_set_other (a := ⟨B, 0, none⟩) (u := .slice A3 m2.length c3) ((hg.block N (blk_lt HN3.out) hNr).trans HN3.out) hNB)
      have qB := (cell_of_box ((hg.block B lt3 (fun e => h03 e.symm)).trans HB3.out)).1; have zB := (cell_of_box ((hg.block B lt3 (fun e => h03 e.symm)).trans HB3.out)).2
      go_upto_region 11 with fail
      generalize w4.setCell ⟨B, 0, none⟩ (.slice A3 m2.length c3) = W4 at *
      clear HP3 HB3 q3 z3 lt3 qB zB hsl hg HC3 HN3 HD lt2 hO hOB h03
      have hm16 := hl2; clear hl2
      obtain ⟨h04, A4, c4, hb4, hs4⟩ := HP4.out
      have q4 := (cell_of_box hb4).1; have z4 := (cell_of_box hb4).2; have lt4 := blk_lt hb4
      have HB4 := Lib.hid hb4; have HS4 := Lib.hid hs4; clear hb4 hs4
      by_cases h16 : 16 ≤ m2.length
      · have HE : Hid (lowL l now to size = m2.drop 1 ++ [⟨to, size, now⟩]) := Lib.hid (HR.out.2.trans (show pushE m2 ⟨to, size, now⟩ = m2.drop 1 ++ [⟨to, size, now⟩] by unfold pushE; rw [if_pos h16]))
        have HD := Lib.hid (drop_o row A4 c4 m2 W4 (by omega) HS4.out)
        have h16z : (16 : Int) ≤ (m2.length : Int) := by omega
        go_wp2_with fail
        refine HD.out.mono ?_
        rintro e v1 ⟨he, hsl, hg⟩
        have hld : (m2.drop 1).length = m2.length - 1 := List.length_drop
        rw [hld] at he
        subst he
        have hps := isP_store h04 HB4.out hg hsl
        rw [hld] at hps
        have HP' := Lib.hid hps; clear hps hld
        have HC' := (HC.trans (.of_grown hg) (.inl rfl)).set 0 (.slice A4 (m2.length - 1) c4)
        have HN' := Lib.hid (block_set_other (a := ⟨B, 0, none⟩) (u := .slice A4 (m2.length - 1) c4) ((hg.block N (blk_lt HN.out) hNr).trans HN.out) hNB)
        have qB := (cell_of_box ((hg.block B lt4 (fun e => h04 e.symm)).trans HB4.out)).1; have zB := (cell_of_box ((hg.block B lt4 (fun e => h04 e.symm)).trans HB4.out)).2
        go_upto_region 13 with fail
        generalize v1.setCell ⟨B, 0, none⟩ (.slice A4 (m2.length - 1) c4) = W9 at *
        clear HP4 HB4 HS4 q4 z4 qB zB hsl hg HC HN
        obtain ⟨hp0, A9, c9, hb9, hs9⟩ := HP'.out
        have q9 := (cell_of_box hb9).1; have z9 := (cell_of_box hb9).2; have lt9 := blk_lt hb9
        have qn := (cell_of_box HN'.out).1
        have HB9 := Lib.hid hb9; clear hb9
        obtain ⟨hown, hobk⟩ := hs9.owns
        have hl16 : (m2.drop 1).length ≤ 16 := by first | exact hm16 | (rw [List.length_drop]; omega)
        obtain ⟨m9, hm9⟩ : ∃ m9, m9 = m2.drop 1 := ⟨_, rfl⟩
        rw [← hm9] at hown hobk hl16 q9 HB9 HE
        have HM9 := Lib.hid hm9
        have Hown := Lib.hid hown; have Hobk := Lib.hid hobk; clear hown hobk hs9 hm9 HM9
        obtain ⟨i0, hi, hz0, hz1, hz2⟩ := info_parts infoEnt
        have HNW := Lib.hid (blk_lt HN'.out)
        go_region_law (refine step_append_lies _ (by rfl) _ _ _ (by rfl) 0 100 i0 (.agg #[.int .i64 0, .int .i64 0, .int .i64 0]) 3 24 Tryd.underlying95 hi hz0 hz1 hz2 rfl (by decide) (.slice A9 m9.length c9) m9.length _ (by rfl) (Hown.out.alloc _) ⟨W9.heap.size, 0, none⟩ 1 1 [.int .i64 to, .int .i64 size, .int .i64 now] (by rfl) rfl (World.news_of_block (heap_alloc_new W9 _)) (by simp [Value.oneCell']) (by omega) (by unfold maxLen; omega) (by omega) (by simp) (W9.heap.size + 1) (by simp) ?_; intro g cap x3 hown3 hgrow3 hat3 hlt3; rw [Hobk.out] at hgrow3 hat3; have hB3 := (hgrow3.block B (blk_lt (block_alloc HB9.out _)) (fun e => hp0 e.symm)).trans (block_alloc HB9.out _); have q3 := (cell_of_box hB3).1; have z3 := (cell_of_box hB3).2)
        all_goals
          go_wp2_with fail
          go_ret
          have hsz3 := hgrow3.size
          have hszA : (W9.alloc (.cells #[.int .i64 to, .int .i64 size, .int .i64 now] 100)).heap.size = W9.heap.size + 1 := by simp
          have hwW := HC'.size
          have hgB : (some g : Option Nat) ≠ some B := fun e => by
            have e := Option.some.inj e
            rcases hat3 with q | q
            · exact hp0 (by rw [q, e])
            · omega
          refine ⟨by rw [HR.out.1]; rfl, some g, ?_, ?_, ?_⟩
          · rw [HE.out]
            refine ⟨hgB, some ⟨g, 0, none⟩, cap, cells_eq (block_setCell (k := 0) (v := .slice (some ⟨g, 0, none⟩) (m9.length + 1) cap) hB3) (by simp), (slP_of_owns (n := m9.length + 1) (by simp) (by rw [enCells_snoc]; exact hown3)).keep fun g' hg' => ?_⟩
            cases hg'
            exact Below.heap_setCell x3 ⟨B, 0, none⟩ _ g (fun e => hgB (by rw [e]))
          · rcases hat3 with q | q
            · exact .inl q.symm
            · exact .inr ⟨g, rfl, by omega⟩
          · exact ((HC'.below (below_alloc (Below.refl _ _).drew)).trans (.of_grown hgrow3) (.inl rfl)).set 0 _
      · have HE : Hid (lowL l now to size = m2 ++ [⟨to, size, now⟩]) := Lib.hid (HR.out.2.trans (show pushE m2 ⟨to, size, now⟩ = m2 ++ [⟨to, size, now⟩] by unfold pushE; rw [if_neg h16]))
        have h16z : ¬ (16 : Int) ≤ (m2.length : Int) := by omega
        go_upto_region 13 with fail
        have HP' := HP4; have HC' := HC; have HN' := HN
        clear HP4 HB4 HS4 q4 z4 HC HN
        obtain ⟨hp0, A9, c9, hb9, hs9⟩ := HP'.out
        have q9 := (cell_of_box hb9).1; have z9 := (cell_of_box hb9).2; have lt9 := blk_lt hb9
        have qn := (cell_of_box HN'.out).1
        have HB9 := Lib.hid hb9; clear hb9
        obtain ⟨hown, hobk⟩ := hs9.owns
        have hl16 : (m2).length ≤ 16 := by first | exact hm16 | (rw [List.length_drop]; omega)
        obtain ⟨m9, hm9⟩ : ∃ m9, m9 = m2 := ⟨_, rfl⟩
        rw [← hm9] at hown hobk hl16 q9 HB9 HE
        have HM9 := Lib.hid hm9
        have Hown := Lib.hid hown; have Hobk := Lib.hid hobk; clear hown hobk hs9 hm9 HM9
        obtain ⟨i0, hi, hz0, hz1, hz2⟩ := info_parts infoEnt
        have HNW := Lib.hid (blk_lt HN'.out)
        go_region_law (refine step_append_lies _ (by rfl) _ _ _ (by rfl) 0 100 i0 (.agg #[.int .i64 0, .int .i64 0, .int .i64 0]) 3 24 Tryd.underlying95 hi hz0 hz1 hz2 rfl (by decide) (.slice A9 m9.length c9) m9.length _ (by rfl) (Hown.out.alloc _) ⟨W4.heap.size, 0, none⟩ 1 1 [.int .i64 to, .int .i64 size, .int .i64 now] (by rfl) rfl (World.news_of_block (heap_alloc_new W4 _)) (by simp [Value.oneCell']) (by omega) (by unfold maxLen; omega) (by omega) (by simp) (W4.heap.size + 1) (by simp) ?_; intro g cap x3 hown3 hgrow3 hat3 hlt3; rw [Hobk.out] at hgrow3 hat3; have hB3 := (hgrow3.block B (blk_lt (block_alloc HB9.out _)) (fun e => hp0 e.symm)).trans (block_alloc HB9.out _); have q3 := (cell_of_box hB3).1; have z3 := (cell_of_box hB3).2)
        all_goals
          go_wp2_with fail
          go_ret
          have hsz3 := hgrow3.size
          have hszA : (W4.alloc (.cells #[.int .i64 to, .int .i64 size, .int .i64 now] 100)).heap.size = W4.heap.size + 1 := by simp
          have hwW := HC'.size
          have hgB : (some g : Option Nat) ≠ some B := fun e => by
            have e := Option.some.inj e
            rcases hat3 with q | q
            · exact hp0 (by rw [q, e])
            · omega
          refine ⟨by rw [HR.out.1]; rfl, some g, ?_, ?_, ?_⟩
          · rw [HE.out]
            refine ⟨hgB, some ⟨g, 0, none⟩, cap, cells_eq (block_setCell (k := 0) (v := .slice (some ⟨g, 0, none⟩) (m9.length + 1) cap) hB3) (by simp), (slP_of_owns (n := m9.length + 1) (by simp) (by rw [enCells_snoc]; exact hown3)).keep fun g' hg' => ?_⟩
            cases hg'
            exact Below.heap_setCell x3 ⟨B, 0, none⟩ _ g (fun e => hgB (by rw [e]))
          · rcases hat3 with q | q
            · exact .inl q.symm
            · exact .inr ⟨g, rfl, by omega⟩
          · exact ((HC'.below (below_alloc (Below.refl _ _).drew)).trans (.of_grown hgrow3) (.inl rfl)).set 0 _
theorem lower_any (row : Option Nat) (B : Nat) (l : List En) (now to size : Int) (w : World) (hp : IsP row B l w) (hk : Kept l) :
    Calls Tryd.prog 30 #[.pointer (some ⟨B, 0, none⟩), .int .i64 now, .int .i64 to, .int .i64 size] w (LowPost row B (lowB l now to size) (lowL l now to size) w) := by
  by_cases h : lowOk now to size
  · exact lower_yes row B l now to size w h hp hk
  · refine (lower_no B now to size w h).mono ?_
    rintro e w' ⟨rfl, hb⟩
    unfold lowB lowL
    rw [if_neg h, if_neg h]
    exact ⟨rfl, row, hp.below hb, .inl rfl, .of_below hb⟩
end Go.Proofs.YtmcfllogcmnnoaaDoor.Ic
