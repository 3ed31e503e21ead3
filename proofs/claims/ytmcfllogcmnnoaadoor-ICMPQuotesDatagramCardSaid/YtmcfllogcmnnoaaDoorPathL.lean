/-
  Plain laws of the table of path MTUs (chapter 8): what Lower keeps, what Size answers; the reference's words agree. No program in sight.
-/
import Derived.Test.YtmcfllogcmnnoaaDoorRows
namespace Go.Proofs.YtmcfllogcmnnoaaDoor.Ic
set_option maxRecDepth 100000

/-- an entry of the table of path MTUs -/
structure En where
  to : Int
  size : Int
  at_ : Int
instance : DecidableEq En := fun a b => decidable_of_iff (a.to = b.to ∧ a.size = b.size ∧ a.at_ = b.at_) (by cases a; cases b; simp)
def freshB (now : Int) (e : En) : Bool := decide (now < e.at_ + 600)
def toB (to : Int) (e : En) : Bool := decide (e.to = to)
def lowOk (now to size : Int) : Prop := (0 ≤ now ∧ now ≤ 1000000000) ∧ (0 ≤ to ∧ to ≤ 4294967295) ∧ 68 ≤ size ∧ size ≤ 1024
instance (a b c : Int) : Decidable (lowOk a b c) := by unfold lowOk; exact inferInstance
def pushE (l : List En) (e : En) : List En := (if 16 ≤ l.length then l.drop 1 else l) ++ [e]
def lowB (l : List En) (now to size : Int) : Bool :=
  if lowOk now to size then (match (l.filter (freshB now)).find? (toB to) with | some o => decide (size < o.size) | none => true) else false
def lowL (l : List En) (now to size : Int) : List En :=
  if lowOk now to size then (match (l.filter (freshB now)).find? (toB to) with
    | some o => if o.size ≤ size then l.filter (freshB now) else pushE ((l.filter (freshB now)).filter (fun e => !decide (e = o))) ⟨to, size, now⟩
    | none => pushE (l.filter (freshB now)) ⟨to, size, now⟩) else l
def sizeE (l : List En) (now to mtu : Int) : Int :=
  match l.find? (toB to) with | some e => if freshB now e = true then min mtu e.size else mtu | none => mtu
/-- what the table keeps -/
structure Kept (l : List En) : Prop where
  len : l.length ≤ 16
  ok : ∀ e ∈ l, 0 ≤ e.at_ ∧ e.at_ ≤ 1000000000 ∧ 68 ≤ e.size ∧ e.size ≤ 1024
  one : l.Pairwise fun a b => a.to ≠ b.to
theorem kept_nil : Kept [] := ⟨by simp, by simp, List.Pairwise.nil⟩
theorem kept_filter {l : List En} (h : Kept l) (p : En → Bool) : Kept (l.filter p) :=
  ⟨Nat.le_trans (List.length_filter_le _ _) h.len, fun e he => h.ok e (List.mem_filter.1 he).1, h.one.filter p⟩
theorem kept_drop {l : List En} (h : Kept l) (n : Nat) : Kept (l.drop n) :=
  ⟨by rw [List.length_drop]; have := h.len; omega, fun e he => h.ok e (List.mem_of_mem_drop he), h.one.sublist (List.drop_sublist n l)⟩
theorem kept_push {l : List En} (h : Kept l) (e : En) (he : 0 ≤ e.at_ ∧ e.at_ ≤ 1000000000 ∧ 68 ≤ e.size ∧ e.size ≤ 1024) (hn : ∀ x ∈ l, x.to ≠ e.to) : Kept (pushE l e) := by
  unfold pushE
  have key : ∀ m : List En, Kept m → m.length ≤ 15 → (∀ x ∈ m, x.to ≠ e.to) → Kept (m ++ [e]) := by
    intro m hm hl hx
    refine ⟨by simp; omega, ?_, ?_⟩
    · intro y hy
      rcases List.mem_append.1 hy with hy | hy
      · exact hm.ok y hy
      · simp at hy; subst hy; exact he
    · rw [List.pairwise_append]
      refine ⟨hm.one, by simp, ?_⟩
      intro a ha b hb
      simp at hb; subst hb
      exact hx a ha
  split
  · exact key _ (kept_drop h 1) (by rw [List.length_drop]; have := h.len; omega) (fun x hx => hn x (List.mem_of_mem_drop hx))
  · exact key _ h (by omega) hn
theorem eq_of_to {l : List En} (h : l.Pairwise fun a b => a.to ≠ b.to) {a b : En} (ha : a ∈ l) (hb : b ∈ l) (he : a.to = b.to) : a = b := by
  induction l with
  | nil => simp at ha
  | cons x l ih =>
    rw [List.pairwise_cons] at h
    rcases List.mem_cons.1 ha with e1 | e1
    · rcases List.mem_cons.1 hb with e2 | e2
      · rw [e1, e2]
      · exact absurd (by rw [← e1]; exact he) (h.1 b e2)
    · rcases List.mem_cons.1 hb with e2 | e2
      · exact absurd (by rw [← e2]; exact he.symm) (h.1 a e1)
      · exact ih h.2 e1 e2
theorem kept_low {l : List En} (h : Kept l) (now to size : Int) : Kept (lowL l now to size) := by
  unfold lowL
  split
  · rename_i hok
    have hf := kept_filter h (freshB now)
    obtain ⟨⟨n0, n1⟩, -, s0, s1⟩ := hok
    split
    · rename_i o ho
      split
      · exact hf
      · refine kept_push (kept_filter hf _) _ ⟨n0, n1, s0, s1⟩ ?_
        intro x hx he
        obtain ⟨hx1, hx2⟩ := List.mem_filter.1 hx
        have hom := List.mem_of_find?_eq_some ho
        have hot := List.find?_some ho
        have hot : o.to = to := of_decide_eq_true hot
        have := eq_of_to hf.one hx1 hom (by rw [hot]; exact he)
        simp [this] at hx2
    · rename_i ho
      refine kept_push hf _ ⟨n0, n1, s0, s1⟩ ?_
      intro x hx he
      have := List.find?_eq_none.1 ho x hx
      simp [toB] at this
      exact this he
  · exact h
/-- the reference's words -/
def rlowB (l : List En) (now to size : Int) : Bool :=
  if lowOk now to size then !((l.filter (freshB now)).any fun e => toB to e && decide (e.size ≤ size)) else false
def rlowL (l : List En) (now to size : Int) : List En :=
  if lowOk now to size then (if ((l.filter (freshB now)).any fun e => toB to e && decide (e.size ≤ size)) = true then l.filter (freshB now) else pushE ((l.filter (freshB now)).filter (fun e => !toB to e)) ⟨to, size, now⟩) else l
def rsizeE (l : List En) (now to mtu : Int) : Int :=
  match l.find? (fun e => toB to e && freshB now e) with | some e => min mtu e.size | none => mtu
theorem find_any {l : List En} (h : l.Pairwise fun a b => a.to ≠ b.to) {to : Int} {o : En} (ho : l.find? (toB to) = some o) (e : En) (he : e ∈ l) : toB to e = decide (e = o) := by
  have hom := List.mem_of_find?_eq_some ho
  have hot : o.to = to := of_decide_eq_true (show toB to o = true from List.find?_some ho)
  unfold toB
  by_cases q : e = o
  · subst q; simp [hot]
  · have : e.to ≠ to := fun q' => q (eq_of_to h he hom (by rw [hot]; exact q'))
    simp [this, q]
theorem any_of_find {l : List En} (h : l.Pairwise fun a b => a.to ≠ b.to) {to : Int} (size : Int) {o : En} (ho : l.find? (toB to) = some o) : (l.any fun e => toB to e && decide (e.size ≤ size)) = decide (o.size ≤ size) := by
  have hom := List.mem_of_find?_eq_some ho
  by_cases q : o.size ≤ size
  · rw [decide_eq_true q]
    exact List.any_eq_true.2 ⟨o, hom, by rw [find_any h ho o hom]; simp [q]⟩
  · rw [decide_eq_false q, List.any_eq_false]
    intro e he
    rw [find_any h ho e he]
    by_cases q2 : e = o
    · subst q2; simp; omega
    · simp [q2]
theorem any_of_none {l : List En} {to : Int} (size : Int) (ho : l.find? (toB to) = none) : (l.any fun e => toB to e && decide (e.size ≤ size)) = false := by
  rw [List.any_eq_false]
  intro e he
  have := List.find?_eq_none.1 ho e he
  simp at this
  simp [this]
theorem filter_to_none {l : List En} {to : Int} (ho : l.find? (toB to) = none) : l.filter (fun e => !toB to e) = l := by
  rw [List.filter_eq_self]
  intro e he
  have := List.find?_eq_none.1 ho e he
  simpa using this
theorem rlowB_eq {l : List En} (h : Kept l) (now to size : Int) : rlowB l now to size = lowB l now to size := by
  unfold rlowB lowB
  split
  · have hf := kept_filter h (freshB now)
    split
    · rename_i o ho
      rw [any_of_find hf.one size ho]
      by_cases q : o.size ≤ size
      · simp [q]
      · simp [q]; omega
    · rename_i ho
      rw [any_of_none size ho]; rfl
  · rfl
theorem rlowL_eq {l : List En} (h : Kept l) (now to size : Int) : rlowL l now to size = lowL l now to size := by
  unfold rlowL lowL
  by_cases hok : lowOk now to size
  · rw [if_pos hok, if_pos hok]
    have hf := kept_filter h (freshB now)
    cases ho : List.find? (toB to) (l.filter (freshB now)) with
    | none =>
      rw [any_of_none size ho, filter_to_none ho]
      simp
    | some o =>
      rw [any_of_find hf.one size ho]
      by_cases q : o.size ≤ size
      · simp [q]
      · have e : (l.filter (freshB now)).filter (fun e => !toB to e) = (l.filter (freshB now)).filter (fun e => !decide (e = o)) :=
          List.filter_congr fun e he => by rw [find_any hf.one ho e he]
        rw [e]
        simp [q]
  · rw [if_neg hok, if_neg hok]
theorem find_and {l : List En} (h : l.Pairwise fun a b => a.to ≠ b.to) (now to : Int) : l.find? (fun e => toB to e && freshB now e) = (l.find? (toB to)).filter (freshB now) := by
  induction l with
  | nil => rfl
  | cons x l ih =>
    rw [List.pairwise_cons] at h
    cases hx : toB to x with
    | false => simp only [List.find?_cons, hx, Bool.false_and]; exact ih h.2
    | true =>
      cases hf : freshB now x with
      | true => simp [hx, hf, Option.filter]
      | false =>
        have hn : l.find? (fun e => toB to e && freshB now e) = none := by
          rw [List.find?_eq_none]
          intro e he
          have h1 := h.1 e he
          have : x.to = to := of_decide_eq_true hx
          have : toB to e = false := decide_eq_false (fun q => h1 (by rw [this, q]))
          simp [this]
        simp only [List.find?_cons, hx, hf, Bool.and_false]
        rw [hn]
        simp [hf, Option.filter]
theorem rsizeE_eq {l : List En} (h : Kept l) (now to mtu : Int) : rsizeE l now to mtu = sizeE l now to mtu := by
  unfold rsizeE sizeE
  rw [find_and h.one]
  cases ho : l.find? (toB to) with
  | none => rfl
  | some o => cases hf : freshB now o <;> simp [hf, Option.filter]
theorem find_filter (l : List En) (now to : Int) : (l.filter (freshB now)).find? (toB to) = l.find? (fun e => toB to e && freshB now e) := by
  rw [List.find?_filter]
  congr 1
  funext e
  rw [Bool.decide_and, Bool.decide_eq_true, Bool.decide_eq_true, Bool.and_comm]
theorem sizeE_filter {l : List En} (h : Kept l) (now to mtu : Int) : sizeE l now to mtu = match (l.filter (freshB now)).find? (toB to) with | some o => min mtu o.size | none => mtu := by
  rw [find_filter]
  exact (rsizeE_eq h now to mtu).symm
theorem sizeE_push (l : List En) (now to size mtu : Int) (hn : ∀ x ∈ l, x.to ≠ to) : sizeE (pushE l ⟨to, size, now⟩) now to mtu = min mtu size := by
  have hno : ∀ m : List En, (∀ x ∈ m, x.to ≠ to) → m.find? (toB to) = none := fun m hm => by
    rw [List.find?_eq_none]
    intro e he
    simpa [toB] using hm e he
  have e : (pushE l ⟨to, size, now⟩).find? (toB to) = some ⟨to, size, now⟩ := by
    unfold pushE
    rw [List.find?_append]
    split
    · rw [hno _ (fun x hx => hn x (List.mem_of_mem_drop hx))]; simp [toB]
    · rw [hno _ hn]; simp [toB]
  unfold sizeE
  rw [e]
  have : freshB now ⟨to, size, now⟩ = true := by unfold freshB; simp; omega
  simp [this]
/-- Lower returns true exactly if the new size is smaller than the size that applied -/
theorem grows {l : List En} (h : Kept l) (now to size : Int) (hok : lowOk now to size) :
    lowB l now to size = decide (size < sizeE l now to 2000) ∧ sizeE (lowL l now to size) now to 2000 = (if lowB l now to size = true then size else sizeE l now to 2000) ∧ sizeE (lowL l now to size) now to 2000 ≤ sizeE l now to 2000 := by
  have hf := kept_filter h (freshB now)
  have hs := sizeE_filter h now to 2000
  have h2 := hok.2.2
  unfold lowB lowL
  rw [if_pos hok, if_pos hok]
  rw [hs]
  cases ho : List.find? (toB to) (l.filter (freshB now)) with
  | none =>
    have hn : ∀ x ∈ l.filter (freshB now), x.to ≠ to := fun x hx => by
      have := List.find?_eq_none.1 ho x hx
      simpa [toB] using this
    have hp := sizeE_push (l.filter (freshB now)) now to size 2000 hn
    have hb : decide (size < 2000) = true := by simp; omega
    simp only [hp, hb]
    refine ⟨by simp, ?_, ?_⟩
    · simp; omega
    · omega
  | some o =>
    have hm := List.mem_of_find?_eq_some ho
    have hot : o.to = to := of_decide_eq_true (show toB to o = true from List.find?_some ho)
    have h4 := hf.ok o hm
    have e1 : min 2000 o.size = o.size := by omega
    by_cases q : o.size ≤ size
    · have hq : decide (size < o.size) = false := by simp; omega
      have hss := sizeE_filter hf now to 2000
      have ee : (l.filter (freshB now)).filter (freshB now) = l.filter (freshB now) := by rw [List.filter_filter]; congr 1; funext x; simp
      rw [ee, ho] at hss
      simp only [hq, e1, if_pos q] at hss ⊢
      exact ⟨by simp, by simp [hss], by omega⟩
    · have hq : decide (size < o.size) = true := by simp; omega
      have hn : ∀ x ∈ (l.filter (freshB now)).filter (fun e => !decide (e = o)), x.to ≠ to := fun x hx he => by
        obtain ⟨hx1, hx2⟩ := List.mem_filter.1 hx
        have := eq_of_to hf.one hx1 hm (by rw [hot]; exact he)
        simp [this] at hx2
      have hp := sizeE_push _ now to size 2000 hn
      simp only [hq, e1, if_neg q, hp]
      exact ⟨by simp, by simp; omega, by omega⟩
theorem lowL_len {l : List En} (h : Kept l) (now to size : Int) : (lowL l now to size).length ≤ 16 := (kept_low h now to size).len
end Go.Proofs.YtmcfllogcmnnoaaDoor.Ic
