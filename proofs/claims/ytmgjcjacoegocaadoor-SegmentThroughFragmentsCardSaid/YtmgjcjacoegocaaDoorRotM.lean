/-
  Reassembly: fragments in a rotation of their order (several texts in one).
-/
import Derived.Test.YtmgjcjacoegocaaDoorReOne
import Derived.Test.YtmgjcjacoegocaaDoorPkM
namespace Go.Proofs.YtmgjcjacoegocaaDoor.Re
set_option maxRecDepth 100000
open Go.RowKit Go.Proofs.YtmgjcjacoegocaaDoor.Wire
open Go.Proofs.YtmgjcjacoegocaaDoor.Ip (Pk vlenB VLen pieceAt count frags count_lt)

/-- what bytes laid from o on make of a datagram -/
theorem layN_at (s : ByteArray) (o : Nat) (H : Hf) (hl : H.hv.length = H.by_.length) : ∀ z, o + z ≤ H.by_.length →
    (∀ j, (layN s o H z).hv[j]? = if o ≤ j ∧ j < o + z then some true else H.hv[j]?) ∧
    (∀ j, (layN s o H z).by_[j]? = if o ≤ j ∧ j < o + z ∧ H.hv[j]? = some false then some (s.data.toList.getD (j - o) 0) else H.by_[j]?)
  | 0, _ => ⟨fun j => by rw [if_neg (by omega)]; rfl, fun j => by rw [if_neg (by omega)]; rfl⟩
  | z + 1, hz => by
    obtain ⟨i1, i2⟩ := layN_at s o H hl z (by omega)
    obtain ⟨l1, l2⟩ := layN_len s o H z
    have e : layN s o H (z + 1) = laySet (layN s o H z) (o + z) (s.data.toList.getD z 0) := rfl
    rw [e]
    have hoz : (layN s o H z).hv[o + z]? = H.hv[o + z]? := by rw [i1, if_neg (by omega)]
    have hex : H.hv[o + z]? = some (H.hv[o + z]'(by omega)) := List.getElem?_eq_getElem _
    cases hb : H.hv[o + z]'(by omega) with
    | true =>
      rw [hb] at hex
      rw [laySet_there (hoz.trans hex)]
      refine ⟨fun j => ?_, fun j => ?_⟩
      · rw [i1]
        by_cases h1 : o ≤ j ∧ j < o + z
        · rw [if_pos h1, if_pos (by omega)]
        · rw [if_neg h1]
          by_cases h2 : j = o + z
          · subst h2; rw [hex, if_pos (by omega)]
          · rw [if_neg (by omega)]
      · rw [i2]
        by_cases h1 : o ≤ j ∧ j < o + z ∧ H.hv[j]? = some false
        · rw [if_pos h1, if_pos ⟨h1.1, by omega, h1.2.2⟩]
        · rw [if_neg h1]
          by_cases h2 : j = o + z
          · subst h2; rw [if_neg (by rw [hex]; simp)]
          · rw [if_neg (fun q => h1 ⟨q.1, by omega, q.2.2⟩)]
    | false =>
      rw [hb] at hex
      rw [laySet_new (hoz.trans hex)]
      refine ⟨fun j => ?_, fun j => ?_⟩
      · show ((layN s o H z).hv.set (o + z) true)[j]? = _
        rw [List.getElem?_set]
        by_cases h2 : o + z = j
        · subst h2
          rw [if_pos rfl, if_pos (by omega), if_pos (by omega)]
        · rw [if_neg h2, i1]
          by_cases h1 : o ≤ j ∧ j < o + z
          · rw [if_pos h1, if_pos (by omega)]
          · rw [if_neg h1, if_neg (by omega)]
      · show ((layN s o H z).by_.set (o + z) _)[j]? = _
        rw [List.getElem?_set]
        by_cases h2 : o + z = j
        · subst h2
          rw [if_pos rfl, if_pos (by omega), if_pos ⟨by omega, by omega, hex⟩, Nat.add_sub_cancel_left]
        · rw [if_neg h2, i2]
          by_cases h1 : o ≤ j ∧ j < o + z ∧ H.hv[j]? = some false
          · rw [if_pos h1, if_pos ⟨h1.1, by omega, h1.2.2⟩]
          · rw [if_neg h1, if_neg (fun q => h1 ⟨q.1, by omega, q.2.2⟩)]
/-- the fragments of p that are in C have come -/
structure Good (p : Pk) (n : Nat) (C : Nat → Bool) (H : Hf) : Prop where
  inv : HInv H
  rej : H.rej = false
  le : H.by_.length ≤ p.s.size
  hv : ∀ j, j < H.by_.length → H.hv[j]? = some (C (j / n))
  by_ : ∀ j, j < H.by_.length → C (j / n) = true → H.by_[j]? = p.s.data.toList[j]?
  top : ∀ j, H.by_.length ≤ j → j < p.s.size → C (j / n) = false
  ended : H.ended = C (count p n - 1)
  en : H.ended = true → H.en = p.s.size
  started : H.started = C 0
  first : H.started = true → H.first.ttl = p.ttl
/-- a datagram that is cut into at least two -/
structure CutP (p : Pk) (n : Nat) : Prop where
  n0 : 0 < n
  off : p.off = 0
  mf : p.mf = false
  two : n < p.s.size
  le : p.s.size ≤ 4000
section
variable {p : Pk} {n : Nat} {C : Nat → Bool} {H : Hf}
theorem CutP.m2 (h : CutP p n) : 2 ≤ count p n := by
  have := (count_lt p n 1 h.n0).2 (by have := h.two; omega)
  omega
theorem good_new {p : Pk} {n : Nat} (now : Int) : Good p n (fun _ => false) (newF now) :=
  ⟨hinv_new now, rfl, Nat.zero_le _, fun j hj => by simp [newF] at hj, fun j hj => by simp [newF] at hj, fun _ _ _ => rfl, rfl, fun q => (by cases q), rfl, fun q => (by cases q)⟩
/-- byte j is of piece k -/
theorem in_piece (h : CutP p n) {k j : Nat} (hk : k < count p n) (hj : j < p.s.size) : (n * k ≤ j ∧ j < n * k + (min (n * k + n) p.s.size - n * k)) ↔ j / n = k := by
  have h1 := (count_lt p n k h.n0).1 hk
  have hn := h.n0
  constructor
  · rintro ⟨a, b⟩
    have h2 : j < n * k + n := by omega
    have h3 : k ≤ j / n := (Nat.le_div_iff_mul_le hn).2 (by rw [Nat.mul_comm]; exact a)
    have h4 : j / n < k + 1 := (Nat.div_lt_iff_lt_mul hn).2 (by rw [Nat.mul_comm, Nat.mul_add]; omega)
    omega
  · rintro rfl
    have h2 : n * (j / n) ≤ j := Nat.mul_div_le j n
    have h3 : j < n * (j / n) + n := Nat.lt_mul_div_succ j hn
    omega
theorem piece_off (h : CutP p n) (k : Nat) : (pieceAt p n k).off = ((n * k : Nat) : Int) := by
  unfold pieceAt; dsimp only; rw [h.off]; omega
theorem piece_sz {p : Pk} {n : Nat} (k : Nat) : (pieceAt p n k).s.size = min (n * k + n) p.s.size - n * k := by
  unfold pieceAt
  dsimp only
  rw [ByteArray.size_extract]
  omega
theorem piece_mf (h : CutP p n) {k : Nat} (hk : k < count p n) : (pieceAt p n k).mf = decide (k ≠ count p n - 1) := by
  unfold pieceAt
  dsimp only
  rw [h.mf, Bool.false_or]
  have h1 := count_lt p n (k + 1) h.n0
  rw [Nat.mul_add, Nat.mul_one] at h1
  exact decide_eq_decide.2 ⟨fun q => by have := h1.2 q; omega, fun q => h1.1 (by omega)⟩
theorem piece_byte {p : Pk} {n : Nat} (k i : Nat) (hi : n * k + i < min (n * k + n) p.s.size) : (pieceAt p n k).s.data.toList.getD i 0 = p.s.data.toList.getD (n * k + i) 0 := by
  have hb : (pieceAt p n k).s.data.toList = (p.s.data.toList.take (min (n * k + n) p.s.size)).drop (n * k) := by
    unfold pieceAt
    dsimp only
    rw [ByteArray.data_extract]
    simp [List.drop_take]
  rw [hb, List.getD_eq_getElem?_getD, List.getD_eq_getElem?_getD, List.getElem?_drop, List.getElem?_take, if_pos hi]
/-- a fragment of p does not conflict -/
theorem good_confl (h : CutP p n) (g : Good p n C H) {k : Nat} (hk : k < count p n) : conflB H (pieceAt p n k) = false := by
  have hsz := piece_sz (p := p) (n := n) k
  have hof := piece_off h k
  have h1 := (count_lt p n k h.n0).1 hk
  have htn : (pieceAt p n k).off.toNat = n * k := by rw [hof]; omega
  have hd : diffAny H (pieceAt p n k) (pieceAt p n k).s.size = false := by
    unfold diffAny
    rw [List.any_eq_false]
    intro i hi
    have hi := List.mem_range.1 hi
    rw [htn]
    unfold differsB
    rw [htn, Nat.add_sub_cancel_left]
    rw [hsz] at hi
    rw [piece_byte k i (by omega)]
    rcases Nat.lt_or_ge (n * k + i) H.by_.length with hl | hl
    · have e1 := g.hv _ hl
      cases hc : C ((n * k + i) / n) with
      | false => rw [hc] at e1; simp [List.getD_eq_getElem?_getD, e1]
      | true =>
        have e2 := g.by_ _ hl hc
        simp only [List.getD_eq_getElem?_getD, e2]
        simp
    · have : H.hv[n * k + i]? = none := List.getElem?_eq_none (by rw [g.inv.len]; exact hl)
      simp [List.getD_eq_getElem?_getD, this]
  unfold conflB
  rw [hd, hsz, hof]
  have hle : n * k + (min (n * k + n) p.s.size - n * k) ≤ p.s.size := by omega
  have a1 : (H.ended && decide (H.en < ((n * k : Nat) : Int) + ((min (n * k + n) p.s.size - n * k : Nat) : Int))) = false := by
    cases he : H.ended with
    | false => rfl
    | true => rw [g.en he, Bool.true_and]; exact decide_eq_false (by omega)
  rw [a1, piece_mf h hk]
  by_cases hm : k = count p n - 1
  · have hlast : n * k + (min (n * k + n) p.s.size - n * k) = p.s.size := by
      have := (not_congr (count_lt p n (k + 1) h.n0)).1 (by omega)
      rw [Nat.mul_add, Nat.mul_one] at this
      omega
    have a2 : decide (((n * k : Nat) : Int) + ((min (n * k + n) p.s.size - n * k : Nat) : Int) < (H.by_.length : Int)) = false := decide_eq_false (by have := g.le; omega)
    have a3 : (H.ended && decide (((n * k : Nat) : Int) + ((min (n * k + n) p.s.size - n * k : Nat) : Int) ≠ H.en)) = false := by
      cases he : H.ended with
      | false => rfl
      | true => rw [g.en he, Bool.true_and]; exact decide_eq_false (by omega)
    rw [a2, a3]; simp
  · rw [decide_eq_true hm]; simp
/-- and it is stored -/
theorem good_store (h : CutP p n) (g : Good p n C H) {k : Nat} (hk : k < count p n) : Good p n (fun i => C i || decide (i = k)) (storeF H (pieceAt p n k)) := by
  have hsz := piece_sz (p := p) (n := n) k
  have hof := piece_off h k
  have h1 := (count_lt p n k h.n0).1 hk
  have hn := h.n0
  have htn : (pieceAt p n k).off.toNat = n * k := by rw [hof]; omega
  have hz0 : 0 < min (n * k + n) p.s.size - n * k := by omega
  have hinv := hinv_store g.inv (pieceAt p n k) (by rw [hof]; omega) (by rw [hof, hsz]; have := h.le; omega)
  have hmf := piece_mf h hk
  have hpt : (pieceAt p n k).ttl = p.ttl := rfl
  obtain ⟨q, hq⟩ : ∃ q, pieceAt p n k = q := ⟨_, rfl⟩
  have hby : ∀ i, n * k + i < min (n * k + n) p.s.size → q.s.data.toList.getD i 0 = p.s.data.toList.getD (n * k + i) 0 := fun i hi => by rw [← hq]; exact piece_byte k i hi
  rw [hq] at hsz hof htn hinv hmf hpt ⊢
  -- the parts of the store
  obtain ⟨G, hG⟩ : ∃ G, growF H (q.off.toNat + q.s.size) = G := ⟨_, rfl⟩
  have gl : G.by_.length = max H.by_.length (n * k + q.s.size) := by rw [← hG, htn]; simp [growF]; omega
  have gh : G.hv.length = G.by_.length := by rw [← hG]; simp [growF, g.inv.len]
  have gv : ∀ j, j < H.by_.length → G.hv[j]? = H.hv[j]? ∧ G.by_[j]? = H.by_[j]? := fun j hj => by
    rw [← hG]
    exact ⟨List.getElem?_append_left (by rw [g.inv.len]; exact hj), List.getElem?_append_left hj⟩
  have gn : ∀ j, H.by_.length ≤ j → j < G.by_.length → G.hv[j]? = some false := fun j hj hj2 => by
    rw [← hG] at hj2 ⊢
    show (H.hv ++ _)[j]? = _
    rw [List.getElem?_append_right (by rw [g.inv.len]; exact hj), List.getElem?_replicate]
    rw [if_pos]
    simp [growF] at hj2
    rw [g.inv.len]; omega
  have lay := layN_at q.s (n * k) G gh q.s.size (by rw [gl]; omega)
  have lst := layN_start q.s (n * k) G q.s.size
  have lln := layN_len q.s (n * k) G q.s.size
  obtain ⟨Y, hY⟩ : ∃ Y, layN q.s (n * k) G q.s.size = Y := ⟨_, rfl⟩
  rw [hY] at lay lst lln
  have gs : G.started = H.started ∧ G.first = H.first ∧ G.rej = H.rej ∧ G.ended = H.ended ∧ G.en = H.en := by rw [← hG]; exact ⟨rfl, rfl, rfl, rfl, rfl⟩
  have hst : storeF H q = firstF (endF Y q) q := by unfold storeF; rw [hG, htn, hY]
  have same : (storeF H q).by_ = Y.by_ ∧ (storeF H q).hv = Y.hv ∧ (storeF H q).rej = Y.rej := by
    rw [hst]
    unfold firstF endF
    split <;> split <;> exact ⟨rfl, rfl, rfl⟩
  have hend : (storeF H q).ended = (H.ended || !q.mf) ∧ ((storeF H q).ended = true → (storeF H q).en = p.s.size) := by
    have e0 : (storeF H q).ended = (endF Y q).ended ∧ (storeF H q).en = (endF Y q).en := by
      rw [hst]
      unfold firstF
      split <;> exact ⟨rfl, rfl⟩
    rw [e0.1, e0.2]
    unfold endF
    cases hm : q.mf with
    | true =>
      rw [if_pos rfl]
      rw [lst.2.2.2.2.1, gs.2.2.2.1, lst.2.2.2.2.2, gs.2.2.2.2]
      exact ⟨by simp, fun he => g.en he⟩
    | false =>
      rw [if_neg (by simp)]
      refine ⟨by simp, fun _ => ?_⟩
      show q.off + (q.s.size : Int) = _
      rw [hm] at hmf
      have hk' : k = count p n - 1 := by
        rcases Decidable.em (k = count p n - 1) with e | e
        · exact e
        · rw [decide_eq_true e] at hmf; cases hmf
      have := (not_congr (count_lt p n (k + 1) h.n0)).1 (by omega)
      rw [Nat.mul_add, Nat.mul_one] at this
      rw [hof, hsz]; omega
  have hfst : (storeF H q).started = (H.started || decide (k = 0)) ∧ ((storeF H q).started = true → (storeF H q).first.ttl = p.ttl) := by
    have e0 : (endF Y q).started = H.started ∧ (endF Y q).first = H.first := by
      unfold endF
      split
      · exact ⟨lst.2.1.trans gs.1, lst.2.2.1.trans gs.2.1⟩
      · exact ⟨lst.2.1.trans gs.1, lst.2.2.1.trans gs.2.1⟩
    rw [hst]
    unfold firstF
    have ez : q.off = 0 ↔ k = 0 := by
      rw [hof]
      constructor
      · intro e
        rcases Nat.eq_zero_or_pos k with r | r
        · exact r
        · have := Nat.mul_pos hn r; omega
      · rintro rfl; simp
    by_cases hc : q.off = 0 ∧ (endF Y q).started = false
    · rw [if_pos hc]
      exact ⟨by show true = _; rw [decide_eq_true (ez.1 hc.1)]; simp, fun _ => hpt⟩
    · rw [if_neg hc, e0.1, e0.2]
      refine ⟨?_, fun he => g.first he⟩
      cases hs : H.started with
      | true => rfl
      | false =>
        rw [Bool.false_or, eq_comm]
        exact decide_eq_false (fun e => hc ⟨ez.2 e, by rw [e0.1, hs]⟩)
  have lenY : Y.by_.length = max H.by_.length (n * k + q.s.size) := lln.1.trans gl
  have inp := fun j (hj : j < p.s.size) => in_piece h hk hj
  rw [← hsz] at inp
  refine ⟨hinv, by rw [same.2.2, lst.2.2.2.1, gs.2.2.1]; exact g.rej, ?_, ?_, ?_, ?_, ?_, hend.2, ?_, hfst.2⟩
  · rw [same.1, lenY]; have := g.le; omega
  · intro j hj
    rw [same.1, lenY] at hj
    rw [same.2.1, lay.1]
    have hjs : j < p.s.size := by have := g.le; omega
    by_cases hin : n * k ≤ j ∧ j < n * k + q.s.size
    · rw [if_pos hin, (inp j hjs).1 hin]; simp
    · rw [if_neg hin]
      have hne : j / n ≠ k := fun e => hin ((inp j hjs).2 e)
      rw [decide_eq_false hne, Bool.or_false]
      rcases Nat.lt_or_ge j H.by_.length with hl | hl
      · rw [(gv j hl).1]; exact g.hv j hl
      · rw [gn j hl (by rw [gl]; exact hj), g.top j hl hjs]
  · intro j hj hc
    rw [same.1, lenY] at hj
    rw [same.1, lay.2]
    have hjs : j < p.s.size := by have := g.le; omega
    have hget : p.s.data.toList[j]? = some (p.s.data.toList.getD j 0) := by
      have hl : j < p.s.data.toList.length := hjs
      rw [List.getD_eq_getElem?_getD, List.getElem?_eq_getElem hl]; rfl
    by_cases hin : n * k ≤ j ∧ j < n * k + q.s.size ∧ G.hv[j]? = some false
    · rw [if_pos hin, hby (j - n * k) (by omega), hget]
      congr 2; omega
    · rw [if_neg hin]
      rcases Nat.lt_or_ge j H.by_.length with hl | hl
      · rw [(gv j hl).2]
        refine g.by_ j hl ?_
        cases hcj : C (j / n) with
        | true => rfl
        | false =>
          rw [hcj, Bool.false_or] at hc
          have e := of_decide_eq_true hc
          exfalso
          have := (inp j hjs).2 e
          exact hin ⟨this.1, this.2, by rw [(gv j hl).1, g.hv j hl, hcj]⟩
      · exfalso
        rw [g.top j hl hjs, Bool.false_or] at hc
        have := (inp j hjs).2 (of_decide_eq_true hc)
        exact hin ⟨this.1, this.2, gn j hl (by rw [gl]; exact hj)⟩
  · intro j hj hjs
    rw [same.1, lenY] at hj
    rw [g.top j (by omega) hjs, Bool.false_or]
    exact decide_eq_false (fun e => by have := (inp j hjs).2 e; omega)
  · rw [hend.1, g.ended, hmf]
    by_cases e : k = count p n - 1
    · rw [decide_eq_false (fun q => q e), decide_eq_true e.symm]; rfl
    · rw [decide_eq_true e, decide_eq_false (fun q => e q.symm)]; rfl
  · rw [hfst.1, g.started]
    congr 1
    exact decide_eq_decide.2 eq_comm
theorem good_whole (h : CutP p n) (g : Good p n C H) : wholeB H = true ↔ ∀ i, i < count p n → C i = true := by
  have hm := h.m2
  have hn := h.n0
  have hlc : H.hv.count true ≤ H.hv.length := List.count_le_length
  unfold wholeB
  rw [Bool.and_eq_true, decide_eq_true_eq]
  constructor
  · rintro ⟨he, hc⟩ i hi
    rw [g.en he, g.inv.cnt] at hc
    have h2 : H.hv.count true = H.hv.length := by have := g.le; have := g.inv.len; omega
    have h3 : H.by_.length = p.s.size := by have := g.le; have := g.inv.len; omega
    have hall := List.count_eq_length.1 h2
    have hi2 := (count_lt p n i hn).1 hi
    have e1 := g.hv (n * i) (by omega)
    have e2 := hall _ (List.mem_of_getElem? e1)
    rw [Nat.mul_div_cancel_left i hn] at e2
    exact e2.symm
  · intro hc
    have he : H.ended = true := by rw [g.ended]; exact hc _ (by omega)
    refine ⟨he, ?_⟩
    have h3 : H.by_.length = p.s.size := by
      rcases Nat.lt_or_ge H.by_.length p.s.size with q | q
      · have := g.top _ (Nat.le_refl _) q
        rw [hc _ ((count_lt p n _ hn).2 (Nat.lt_of_le_of_lt (Nat.mul_div_le _ n) q))] at this
        cases this
      · have := g.le; omega
    rw [g.en he, g.inv.cnt]
    have : H.hv.count true = H.hv.length := by
      rw [List.count_eq_length]
      intro b hb
      obtain ⟨j, hj⟩ := List.getElem?_of_mem hb
      have hjl : j < H.by_.length := by have := (List.getElem?_eq_some_iff.1 hj).1; have := g.inv.len; omega
      have e1 := g.hv j hjl
      rw [hj] at e1
      have e2 := Option.some.inj e1
      rw [e2, hc _ ((count_lt p n _ hn).2 (Nat.lt_of_le_of_lt (Nat.mul_div_le _ n) (by omega)))]
    rw [this, g.inv.len, h3]
theorem good_bytes (h : CutP p n) (g : Good p n C H) (hc : ∀ i, i < count p n → C i = true) : H.by_ = p.s.data.toList ∧ H.first.ttl = p.ttl := by
  have hn := h.n0
  have hm := h.m2
  have h3 : H.by_.length = p.s.size := by
    rcases Nat.lt_or_ge H.by_.length p.s.size with q | q
    · have := g.top _ (Nat.le_refl _) q
      rw [hc _ ((count_lt p n _ hn).2 (Nat.lt_of_le_of_lt (Nat.mul_div_le _ n) q))] at this
      cases this
    · have := g.le; omega
  refine ⟨?_, g.first (by rw [g.started]; exact hc 0 (by omega))⟩
  apply List.ext_getElem?
  intro j
  rcases Nat.lt_or_ge j H.by_.length with q | q
  · exact g.by_ j q (hc _ ((count_lt p n _ hn).2 (Nat.lt_of_le_of_lt (Nat.mul_div_le _ n) (by omega))))
  · rw [List.getElem?_eq_none q, List.getElem?_eq_none (by show p.s.size ≤ j; omega)]
theorem good_congr {C' : Nat → Bool} (g : Good p n C H) (hn : 0 < n) (hm : 0 < count p n) (hc : ∀ i, i < count p n → C' i = C i) : Good p n C' H := by
  have hd : ∀ j, j < p.s.size → C' (j / n) = C (j / n) := fun j hj => hc _ ((count_lt p n _ hn).2 (Nat.lt_of_le_of_lt (Nat.mul_div_le _ n) hj))
  exact ⟨g.inv, g.rej, g.le, fun j hj => by rw [hd j (by have := g.le; omega)]; exact g.hv j hj, fun j hj q => g.by_ j hj (by rw [← hd j (by have := g.le; omega)]; exact q),
    fun j hj q => by rw [hd j q]; exact g.top j hj q, by rw [hc _ (by omega)]; exact g.ended, g.en, by rw [hc _ (by omega)]; exact g.started, g.first⟩
end
end Go.Proofs.YtmgjcjacoegocaaDoor.Re

namespace Go.Proofs.YtmgjcjacoegocaaDoor.Re
set_option maxRecDepth 100000
open Go.RowKit Go.Proofs.YtmgjcjacoegocaaDoor.Wire
open Go.Proofs.YtmgjcjacoegocaaDoor.Ip (Pk vlenB VLen pieceAt count frags count_lt)

def look (A : List (Ky × Hf)) (k : Ky) : Option Hf := (A.find? fun x => decide (k = x.1)).map (·.2)
def NK (A : List (Ky × Hf)) : Prop := (A.map (·.1)).Nodup
theorem look_nil (k : Ky) : look [] k = none := rfl
theorem look_cons (x : Ky × Hf) (A : List (Ky × Hf)) (k : Ky) : look (x :: A) k = if k = x.1 then some x.2 else look A k := by
  unfold look
  rw [List.find?_cons]
  by_cases h : k = x.1
  · rw [decide_eq_true h, if_pos h]; rfl
  · rw [decide_eq_false h, if_neg h]
theorem lk_none {A : List (Ky × Hf)} {k : Ky} : look A k = none ↔ ∀ x ∈ A, x.1 ≠ k := by
  unfold look
  rw [Option.map_eq_none_iff, List.find?_eq_none]
  constructor
  · intro h x hx e; exact h x hx (decide_eq_true e.symm)
  · intro h x hx e; exact h x hx (of_decide_eq_true e).symm
theorem lk_some {A : List (Ky × Hf)} (hn : NK A) {k : Ky} {H : Hf} : look A k = some H ↔ ∃ i, A[i]? = some (k, H) ∧ hasK A k = some i := by
  unfold look
  constructor
  · intro h
    obtain ⟨x, hx, rfl⟩ := Option.map_eq_some_iff.1 h
    have hk : k = x.1 := by have := List.find?_some hx; exact of_decide_eq_true this
    obtain ⟨i, hi⟩ := List.getElem?_of_mem (List.mem_of_find?_eq_some hx)
    refine ⟨i, by rw [hi, hk], ?_⟩
    unfold hasK
    exact at_some hn (by rw [List.getElem?_map, hi, hk]; rfl)
  · rintro ⟨i, hi, -⟩
    cases hf : A.find? fun x => decide (k = x.1) with
    | none => exact absurd (List.mem_of_getElem? hi) (fun q => by have := List.find?_eq_none.1 hf _ q; simp at this)
    | some x =>
      have hk : k = x.1 := by have := List.find?_some hf; exact of_decide_eq_true this
      obtain ⟨j, hj⟩ := List.getElem?_of_mem (List.mem_of_find?_eq_some hf)
      have e1 : (A.map (·.1))[i]? = some k := by rw [List.getElem?_map, hi]; rfl
      have e2 : (A.map (·.1))[j]? = some k := by rw [List.getElem?_map, hj]; simp [hk]
      obtain ⟨h1, h2⟩ := List.getElem?_eq_some_iff.1 e1
      obtain ⟨h3, h4⟩ := List.getElem?_eq_some_iff.1 e2
      have hij : i = j := by
        rcases Nat.lt_trichotomy i j with q | q | q
        · exact absurd (h2.trans h4.symm) ((List.pairwise_iff_getElem.1 hn) i j h1 h3 q)
        · exact q
        · exact absurd (h4.trans h2.symm) ((List.pairwise_iff_getElem.1 hn) j i h3 h1 q)
      subst hij
      rw [hi] at hj
      rw [← Option.some.inj hj]; rfl
theorem look_append {A : List (Ky × Hf)} {k : Ky} {H : Hf} (h : look A k = none) (k' : Ky) : look (A ++ [(k, H)]) k' = if k' = k then some H else look A k' := by
  induction A with
  | nil => rw [List.nil_append, look_cons]
  | cons x A ih =>
    rw [look_cons] at h
    split at h
    · cases h
    · rename_i hne
      rw [List.cons_append, look_cons, ih h, look_cons]
      by_cases e : k' = x.1
      · rw [if_pos e, if_neg (fun q => hne (q.symm.trans e)), if_pos e]
      · rw [if_neg e, if_neg e]
theorem look_set : ∀ {A : List (Ky × Hf)} {i : Nat} {k : Ky} {H0 H : Hf} (_ : A[i]? = some (k, H0)) (_ : NK A) (k' : Ky), look (A.set i (k, H)) k' = if k' = k then some H else look A k'
  | [], i, k, H0, H, h, _, k' => by simp at h
  | x :: A, 0, k, H0, H, h, _, k' => by
    simp at h; subst h
    rw [List.set_cons_zero, look_cons, look_cons]
    by_cases e : k' = k
    · rw [if_pos e, if_pos e]
    · rw [if_neg e, if_neg e, if_neg e]
  | x :: A, i + 1, k, H0, H, h, hn, k' => by
    have h' : A[i]? = some (k, H0) := by simpa using h
    have hn' : NK A := (List.nodup_cons.1 hn).2
    have hne : k ≠ x.1 := fun e => (List.nodup_cons.1 hn).1 (by
      have : k ∈ A.map (·.1) := List.mem_map.2 ⟨_, List.mem_of_getElem? h', rfl⟩
      rw [e] at this; exact this)
    rw [List.set_cons_succ, look_cons, look_set h' hn' k', look_cons]
    by_cases e : k' = x.1
    · rw [if_pos e, if_neg (fun q => hne (q.symm.trans e)), if_pos e]
    · rw [if_neg e, if_neg e]
theorem look_erase : ∀ {A : List (Ky × Hf)} {i : Nat} {k : Ky} {H0 : Hf} (_ : A[i]? = some (k, H0)) (_ : NK A) (k' : Ky), look (A.eraseIdx i) k' = if k' = k then none else look A k'
  | [], i, k, H0, h, _, k' => by simp at h
  | x :: A, 0, k, H0, h, hn, k' => by
    simp at h; subst h
    rw [List.eraseIdx_cons_zero, look_cons]
    by_cases e : k' = k
    · rw [if_pos e, lk_none]
      intro y hy q
      exact (List.nodup_cons.1 hn).1 (List.mem_map.2 ⟨y, hy, q.trans e⟩)
    · rw [if_neg e, if_neg e]
  | x :: A, i + 1, k, H0, h, hn, k' => by
    have h' : A[i]? = some (k, H0) := by simpa using h
    have hn' : NK A := (List.nodup_cons.1 hn).2
    have hne : k ≠ x.1 := fun e => (List.nodup_cons.1 hn).1 (by
      have : k ∈ A.map (·.1) := List.mem_map.2 ⟨_, List.mem_of_getElem? h', rfl⟩
      rw [e] at this; exact this)
    rw [List.eraseIdx_cons_succ, look_cons, look_erase h' hn' k', look_cons]
    by_cases e : k' = x.1
    · rw [if_pos e, if_neg (fun q => hne (q.symm.trans e)), if_pos e]
    · rw [if_neg e, if_neg e]
theorem nk_append {A : List (Ky × Hf)} (hn : NK A) {k : Ky} {H : Hf} (h : look A k = none) : NK (A ++ [(k, H)]) := by
  unfold NK
  rw [List.map_append, List.nodup_append]
  refine ⟨hn, by simp, fun a ha b hb => ?_⟩
  obtain ⟨x, hx, rfl⟩ := List.mem_map.1 ha
  simp at hb; subst hb
  exact lk_none.1 h x hx
theorem nk_set {A : List (Ky × Hf)} (hn : NK A) {i : Nat} {k : Ky} {H0 H : Hf} (h : A[i]? = some (k, H0)) : NK (A.set i (k, H)) := by
  unfold NK
  rw [List.map_set]
  obtain ⟨hl, e⟩ := List.getElem?_eq_some_iff.1 h
  have : (A.map (·.1))[i]'(by simpa using hl) = k := by simp [e]
  rw [show (k, H).1 = (A.map (·.1))[i]'(by simpa using hl) from this.symm, List.set_getElem_self]
  exact hn
theorem nk_erase {A : List (Ky × Hf)} (hn : NK A) (i : Nat) : NK (A.eraseIdx i) := by
  unfold NK
  exact hn.sublist ((List.eraseIdx_sublist A i).map _)
/-- the entry of a key, an old one or a new one: where it stands in the list that Put works on -/
theorem hasK_no {A : List (Ky × Hf)} {k : Ky} (h : ∀ x ∈ A, x.1 ≠ k) : hasK A k = none := by
  unfold hasK
  rw [List.findIdx?_eq_none_iff]
  intro y hy
  obtain ⟨x, hx, rfl⟩ := List.mem_map.1 hy
  exact decide_eq_false (fun q => h x hx q.symm)
theorem putA_at {A : List (Ky × Hf)} (hn : NK A) (now : Int) (p : Pk) (hv : vldB p = true) (hf : p.mf = true ∨ p.off ≠ 0) :
    ∃ A1 i, putA A now p = putH A1 i (keyOf p) ((look A (keyOf p)).getD (newF now)) p ∧ NK A1 ∧ A1[i]? = some (keyOf p, (look A (keyOf p)).getD (newF now)) ∧ (∀ k', k' ≠ keyOf p → look A1 k' = look A k') ∧ A1.length ≤ A.length + 1 ∧ (∀ x ∈ A1, x ∈ A ∨ x.1 = keyOf p) ∧ ((look A (keyOf p)).isSome = true → A1 = A) := by
  have e1 : putA A now p = match hasK A (keyOf p) with
    | some i => putH A i (keyOf p) ((A[i]?.map (·.2)).getD (newF now)) p
    | none => putH (A ++ [(keyOf p, newF now)]) A.length (keyOf p) (newF now) p := by
    unfold putA
    rw [hv, if_neg (by simp), if_neg (by rintro ⟨a, b⟩; rcases hf with q | q; (rw [a] at q; cases q); exact q b)]
    cases hasK A (keyOf p) <;> rfl
  cases hl : look A (keyOf p) with
  | none =>
    have hk := hasK_no (lk_none.1 hl)
    rw [hk] at e1
    refine ⟨A ++ [(keyOf p, newF now)], A.length, e1, nk_append hn hl, by rw [List.getElem?_append_right (Nat.le_refl _), Nat.sub_self]; rfl, fun k' h' => by rw [look_append hl, if_neg h'], by simp, fun x hx => ?_, fun q => (by cases q)⟩
    rcases List.mem_append.1 hx with q | q
    · exact .inl q
    · simp at q; exact .inr (by rw [q])
  | some H =>
    obtain ⟨i, h1, h2⟩ := (lk_some hn).1 hl
    rw [h2] at e1
    refine ⟨A, i, ?_, hn, h1, fun _ _ => rfl, by omega, fun x hx => .inl hx, fun _ => rfl⟩
    rw [e1]
    show putH A i _ ((Option.map _ A[i]?).getD _) p = _
    rw [h1]; rfl
/-- the datagram that comes out -/
def outP (p : Pk) : Pk := { p with df := false, mf := false, off := 0 }
/-- a fragment of p among others -/
theorem put_good {p : Pk} {n : Nat} (h : CutP p n) {A : List (Ky × Hf)} (hn : NK A) {C : Nat → Bool} {now : Int} (g : Good p n C ((look A (keyOf p)).getD (newF now))) {k : Nat} (hk : k < count p n) (hv : vldB (pieceAt p n k) = true) :
    ∃ A', NK A' ∧ (∀ k', k' ≠ keyOf p → look A' k' = look A k') ∧ A'.length ≤ A.length + 1 ∧ (∀ x ∈ A', x ∈ A ∨ x.1 = keyOf p) ∧
      (((∀ i, i < count p n → C i = true ∨ i = k) ∧ putA A now (pieceAt p n k) = (A', outP p, true, 0) ∧ look A' (keyOf p) = none) ∨
       ((∃ i, i < count p n ∧ C i = false ∧ i ≠ k) ∧ putA A now (pieceAt p n k) = (A', pk0, false, 0) ∧ ∃ H, look A' (keyOf p) = some H ∧ Good p n (fun i => C i || decide (i = k)) H)) := by
  have hm := h.m2
  have hkey : keyOf (pieceAt p n k) = keyOf p := rfl
  have hfr : (pieceAt p n k).mf = true ∨ (pieceAt p n k).off ≠ 0 := by
    by_cases e : k = count p n - 1
    · right
      rw [piece_off h]
      have := Nat.mul_pos h.n0 (show 0 < k by omega)
      omega
    · left; rw [piece_mf h hk]; exact decide_eq_true e
  obtain ⟨A1, i, e1, n1, h1, l1, z1, m1, -⟩ := putA_at hn now (pieceAt p n k) hv hfr
  rw [hkey] at e1 h1 l1 m1
  have gs := good_store h g hk
  have gc := good_confl h g hk
  have gr := g.rej
  have gw := good_whole h gs
  have gb := good_bytes h gs
  generalize (look A (keyOf p)).getD (newF now) = H at *
  unfold putH at e1
  rw [if_neg (by rw [gr]; simp), if_neg (by rw [gc]; simp)] at e1
  by_cases hw : wholeB (storeF H (pieceAt p n k)) = true
  · rw [if_pos hw] at e1
    have hall := gw.1 hw
    obtain ⟨b1, b2⟩ := gb hall
    refine ⟨A1.eraseIdx i, nk_erase n1 i, fun k' h' => by rw [look_erase h1 n1, if_neg h', l1 k' h'], Nat.le_trans (List.length_eraseIdx_le ..) z1, fun x hx => m1 x ((List.eraseIdx_sublist _ _).subset hx), .inl ⟨fun j hj => ?_, ?_, by rw [look_erase h1 n1, if_pos rfl]⟩⟩
    · have := hall j hj
      rw [Bool.or_eq_true, decide_eq_true_eq] at this
      exact this
    · rw [e1]
      unfold outF outP
      rw [b1, b2]
      rfl
  · rw [if_neg hw] at e1
    refine ⟨A1.set i (keyOf p, storeF H (pieceAt p n k)), nk_set n1 h1, fun k' h' => by rw [look_set h1 n1, if_neg h', l1 k' h'], by rw [List.length_set]; exact z1, fun x hx => ?_, .inr ⟨?_, e1, _, by rw [look_set h1 n1, if_pos rfl], gs⟩⟩
    · rcases List.mem_or_eq_of_mem_set hx with q | q
      · exact m1 x q
      · exact .inr (by rw [q])
    · apply Classical.byContradiction
      intro hno
      apply hw
      rw [gw]
      intro j hj
      rw [Bool.or_eq_true, decide_eq_true_eq]
      cases hc : C j with
      | true => exact .inl rfl
      | false => exact .inr (Classical.byContradiction fun hne => hno ⟨j, hj, hc, hne⟩)
end Go.Proofs.YtmgjcjacoegocaaDoor.Re

namespace Go.Proofs.YtmgjcjacoegocaaDoor.Re
set_option maxRecDepth 100000
open Go.RowKit Go.Proofs.YtmgjcjacoegocaaDoor.Wire
open Go.Proofs.YtmgjcjacoegocaaDoor.Ip (Pk pieceAt count frags count_lt)

theorem rot_inj {M t a b : Nat} (ha : a < M) (hb : b < M) (h : (a + t) % M = (b + t) % M) : a = b := by
  have key : ∀ x y : Nat, x < M → y ≤ x → (x + t) % M = (y + t) % M → x = y := fun x y hx hy h => by
    have h1 := Nat.sub_mod_eq_zero_of_mod_eq h
    have h2 : (x + t) - (y + t) = x - y := by omega
    rw [h2, Nat.mod_eq_of_lt (by omega)] at h1
    omega
  rcases Nat.le_total b a with q | q
  · exact key a b ha q h
  · exact (key b a hb q h.symm).symm
theorem rot_onto {M t j : Nat} (hj : j < M) : ∃ a, a < M ∧ (a + t) % M = j := by
  have hM : 0 < M := by omega
  refine ⟨(j + M - t % M) % M, Nat.mod_lt _ hM, ?_⟩
  rw [Nat.mod_add_mod]
  have h1 := Nat.mod_lt t hM
  have h2 := Nat.div_add_mod t M
  have e : j + M - t % M + t = j + M * (1 + t / M) := by rw [Nat.mul_add, Nat.mul_one]; omega
  rw [e, Nat.add_mul_mod_self_left, Nat.mod_eq_of_lt hj]
/-- piece j has come when i frames have been sent, those below lost being lost -/
def seen (M t lost i j : Nat) : Bool := decide (∃ a, a < i ∧ lost ≤ a ∧ (a + t) % M = j)
theorem seen_zero (M t lost j : Nat) : seen M t lost 0 j = false := by
  unfold seen
  exact decide_eq_false (fun ⟨a, h, _⟩ => by omega)
theorem seen_lost {M t lost i : Nat} (h : i < lost) (j : Nat) : seen M t lost (i + 1) j = seen M t lost i j := by
  unfold seen
  rw [decide_eq_decide]
  constructor
  · rintro ⟨a, h1, h2, h3⟩; exact ⟨a, by omega, h2, h3⟩
  · rintro ⟨a, h1, h2, h3⟩; exact ⟨a, by omega, h2, h3⟩
theorem seen_succ {M t lost i : Nat} (h : lost ≤ i) (j : Nat) : seen M t lost (i + 1) j = (seen M t lost i j || decide (j = (i + t) % M)) := by
  unfold seen
  rw [← Bool.decide_or, decide_eq_decide]
  constructor
  · rintro ⟨a, h1, h2, h3⟩
    by_cases e : a = i
    · subst e; exact .inr h3.symm
    · exact .inl ⟨a, by omega, h2, h3⟩
  · rintro (⟨a, h1, h2, h3⟩ | h3)
    · exact ⟨a, by omega, h2, h3⟩
    · exact ⟨i, by omega, h, h3.symm⟩
theorem seen_no {M t lost i a : Nat} (ha : a < M) (hi : i ≤ M) (h : i ≤ a ∨ a < lost) : seen M t lost i ((a + t) % M) = false := by
  unfold seen
  refine decide_eq_false ?_
  rintro ⟨b, h1, h2, h3⟩
  have := rot_inj (by omega) ha h3
  omega
/-- a datagram that is carried in fragments of n bytes -/
structure WholeR (p : Pk) (n : Nat) : Prop where
  cut : CutP p n
  df : p.df = false
  val : ∀ k, k < count p n → vldB (pieceAt p n k) = true
theorem WholeR.out {p : Pk} {n : Nat} (h : WholeR p n) : outP p = p := by
  have h1 := h.cut.off; have h2 := h.cut.mf; have h3 := h.df
  obtain ⟨a, b, c, d, e, f, g, i, j⟩ := p
  unfold outP
  dsimp only at *
  rw [h1, h2, h3]
/-- the table when i frames have been sent -/
def RSt (p : Pk) (n t lost i : Nat) (A : List (Ky × Hf)) : Prop := NK A ∧ ∀ now, Good p n (seen (count p n) t lost i) ((look A (keyOf p)).getD (newF now))
theorem RSt.start {p : Pk} {n : Nat} (t lost : Nat) : RSt p n t lost 0 [] :=
  ⟨List.nodup_nil, fun now => by
    rw [look_nil]
    have e : seen (count p n) t lost 0 = fun _ => false := funext fun j => seen_zero _ _ _ j
    rw [e]; exact good_new now⟩
theorem RSt.skip {p : Pk} {n t lost i : Nat} {A : List (Ky × Hf)} (h : RSt p n t lost i A) (hi : i < lost) : RSt p n t lost (i + 1) A :=
  ⟨h.1, fun now => by
    have e : seen (count p n) t lost (i + 1) = seen (count p n) t lost i := funext fun j => seen_lost hi j
    rw [e]; exact h.2 now⟩
theorem RSt.other {p : Pk} {n t lost i : Nat} {A A' : List (Ky × Hf)} (h : RSt p n t lost i A) (hn : NK A') (e : look A' (keyOf p) = look A (keyOf p)) : RSt p n t lost i A' := ⟨hn, fun now => by rw [e]; exact h.2 now⟩
/-- the next frame arrives: the datagram comes out with the last one, if none was lost, and not before -/
theorem RSt.put {p : Pk} {n t lost i : Nat} {A : List (Ky × Hf)} (hw : WholeR p n) (h : RSt p n t lost i A) (hi : i < count p n) (hl : lost ≤ i) (now : Int) :
    ∃ A', NK A' ∧ (∀ k', k' ≠ keyOf p → look A' k' = look A k') ∧ (∀ x ∈ A', x ∈ A ∨ x.1 = keyOf p) ∧
      ((lost = 0 ∧ i + 1 = count p n ∧ putA A now (pieceAt p n ((i + t) % count p n)) = (A', p, true, 0)) ∨
       (¬ (lost = 0 ∧ i + 1 = count p n) ∧ putA A now (pieceAt p n ((i + t) % count p n)) = (A', pk0, false, 0) ∧ RSt p n t lost (i + 1) A')) := by
  have hM : 0 < count p n := by omega
  have hk := Nat.mod_lt (i + t) hM
  obtain ⟨A', n', l', -, m', hres⟩ := put_good hw.cut h.1 (now := now) (h.2 now) hk (hw.val _ hk)
  refine ⟨A', n', l', m', ?_⟩
  rcases hres with ⟨hall, hput, -⟩ | ⟨⟨j, hj, hcj, hjk⟩, hput, H, hlk, hgH⟩
  · left
    have h0 : lost = 0 := by
      rcases Nat.eq_zero_or_pos lost with q | q
      · exact q
      · exfalso
        have hk0 := Nat.mod_lt (0 + t) hM
        rcases hall _ hk0 with r | r
        · rw [seen_no hM (by omega) (.inr q)] at r; cases r
        · have := rot_inj hM hi r; omega
    refine ⟨h0, ?_, by rw [hput, hw.out]⟩
    apply Classical.byContradiction
    intro hne
    have hlast := Nat.mod_lt (i + 1 + t) hM
    rcases hall _ hlast with r | r
    · rw [seen_no (a := i + 1) (by omega) (by omega) (.inl (by omega))] at r; cases r
    · have := rot_inj (a := i + 1) (by omega) hi r; omega
  · right
    refine ⟨?_, hput, n', fun now' => ?_⟩
    · rintro ⟨h0, h1⟩
      obtain ⟨a, ha, rfl⟩ := rot_onto (t := t) hj
      have hai : a ≠ i := fun e => hjk (by rw [e])
      have : seen (count p n) t lost i ((a + t) % count p n) = true := decide_eq_true ⟨a, by omega, by omega, rfl⟩
      rw [this] at hcj; cases hcj
    · rw [hlk]
      refine good_congr hgH hw.cut.n0 hM (fun j _ => ?_)
      exact seen_succ hl j
end Go.Proofs.YtmgjcjacoegocaaDoor.Re

namespace Go.Proofs.YtmgjcjacoegocaaDoor.Re
set_option maxRecDepth 100000
open Go.RowKit Go.Proofs.YtmgjcjacoegocaaDoor.Wire
open Go.Proofs.YtmgjcjacoegocaaDoor.Ip (Pk pieceAt count frags count_lt frags_length fragN fragN_bd fragList VLen vlenB PkRow)

/-- Fragment of a valid datagram that may be cut, and begins at 0 -/
structure Cutable (p : Pk) (n : Int) : Prop where
  ok : p.ok
  df : p.df = false
  mf : p.mf = false
  off : p.off = 0
  n68 : 68 ≤ n
theorem Cutable.list {p : Pk} {n : Int} (h : Cutable p n) : (fragList p n = [p]) ∨ (fragList p n = frags p (fragN n) (count p (fragN n)) ∧ WholeR p (fragN n)) := by
  have hv := h.ok
  unfold Ip.Pk.ok at hv
  have h4 : p.s.size ≤ 4000 := by unfold VLen at hv; omega
  obtain ⟨N1, N2, N3⟩ := fragN_bd n h.n68
  unfold fragList
  rw [if_neg (by simpa using hv), if_neg (by have := h.n68; omega)]
  by_cases hb : 20 + (p.s.size : Int) ≤ n
  · left; rw [if_pos hb]
  · right
    rw [if_neg hb, if_neg (by rw [h.df]; simp)]
    refine ⟨rfl, ⟨by omega, h.off, h.mf, by omega, h4⟩, h.df, fun k hk => ?_⟩
    have hk2 := (count_lt p (fragN n) k (by omega)).1 hk
    have := Ip.piece_ok p h.ok h.df (fragN n) k N3 (by omega) hk2
    unfold Ip.Pk.ok at this
    unfold vldB vlenB
    exact decide_eq_true this
/-- what is known of the table's data when i frames have been sent (those below lost being lost) -/
def RS1 (p : Pk) (n : Int) (t lost i : Nat) (A : List (Ky × Hf)) : Prop :=
  (∀ x ∈ A, x.1 = keyOf p) ∧ NK A ∧ ((fragList p n = [p]) ∨ (fragList p n = frags p (fragN n) (count p (fragN n)) ∧ WholeR p (fragN n) ∧ RSt p (fragN n) t lost i A))
theorem RS1.start {p : Pk} {n : Int} (h : Cutable p n) (t lost : Nat) : RS1 p n t lost 0 [] :=
  ⟨fun x hx => (by cases hx), List.nodup_nil, by
    rcases h.list with q | ⟨q, r⟩
    · exact .inl q
    · exact .inr ⟨q, r, RSt.start t lost⟩⟩
theorem RS1.skip {p : Pk} {n : Int} {t lost i : Nat} {A : List (Ky × Hf)} (h : RS1 p n t lost i A) (hi : i < lost) : RS1 p n t lost (i + 1) A :=
  ⟨h.1, h.2.1, by
    rcases h.2.2 with q | ⟨q, r, s⟩
    · exact .inl q
    · exact .inr ⟨q, r, s.skip hi⟩⟩
theorem RS1.len {p : Pk} {n : Int} {t lost i : Nat} {A : List (Ky × Hf)} (h : RS1 p n t lost i A) : A.length ≤ 1 := by
  obtain ⟨h1, h2, -⟩ := h
  match A, h1, h2 with
  | [], _, _ => simp
  | [x], _, _ => simp
  | x :: y :: r, h1, h2 =>
    exfalso
    have e1 := h1 x (by simp)
    have e2 := h1 y (by simp)
    unfold NK at h2
    rw [List.map_cons, List.map_cons, e1, e2] at h2
    simp at h2
/-- the next frame arrives -/
theorem RS1.put {p : Pk} {n : Int} {t lost i : Nat} {A : List (Ky × Hf)} (hc : Cutable p n) (h : RS1 p n t lost i A) (hi : i < (fragList p n).length) (hl : lost ≤ i) (now : Int) (P : Pk) (hP : (fragList p n)[(i + t) % (fragList p n).length]? = some P) :
    ∃ A', (lost = 0 ∧ i + 1 = (fragList p n).length ∧ putA A now P = (A', p, true, 0)) ∨ (¬ (lost = 0 ∧ i + 1 = (fragList p n).length) ∧ putA A now P = (A', pk0, false, 0) ∧ RS1 p n t lost (i + 1) A') := by
  obtain ⟨h1, h2, h3⟩ := h
  rcases h3 with q | ⟨q, r, s⟩
  · rw [q] at hi hP ⊢
    simp only [List.length_singleton] at hi hP ⊢
    rw [Nat.mod_one] at hP
    simp only [List.getElem?_cons_zero, Option.some.injEq] at hP
    subst hP
    obtain rfl : i = 0 := by omega
    obtain rfl : lost = 0 := by omega
    refine ⟨A, .inl ⟨rfl, rfl, ?_⟩⟩
    have hv := hc.ok
    unfold Ip.Pk.ok at hv
    unfold putA
    have hvb : vldB p = true := by unfold vldB vlenB; exact decide_eq_true hv
    rw [hvb, if_neg (by simp), if_pos ⟨hc.mf, hc.off⟩]
  · rw [q] at hi hP ⊢
    rw [frags_length] at hi hP ⊢
    have hk := Nat.mod_lt (i + t) (show 0 < count p (fragN n) by omega)
    rw [Ip.frags_get p (fragN n) _ _ hk, Option.some.injEq] at hP
    subst hP
    obtain ⟨A', n', l', m', hres⟩ := s.put r hi hl now
    refine ⟨A', ?_⟩
    rcases hres with ⟨a, b, c⟩ | ⟨a, b, c⟩
    · exact .inl ⟨a, b, c⟩
    · refine .inr ⟨a, b, fun x hx => ?_, n', .inr ⟨q, r, c⟩⟩
      rcases m' x hx with e | e
      · exact h1 x e
      · exact e
/-- the row of the fragments, in memory: Fragment's contract by the list itself -/
theorem fragL {p : Pk} {n : Int} (h : Cutable p n) (w : World) : Calls Tryd.prog 32 #[p.val, .int .i64 n] w fun e w' => (∃ g cap : Nat, e = .returned (.tuple #[.slice (some ⟨g, 0, none⟩) (fragList p n).length cap, .int .i64 0]) ∧ w.heap.size ≤ g ∧ PkRow w' g (fragList p n)) ∧ Below w.heap.size w w' := by
  have hs : p.s.size ≤ 4000 := by have := h.ok; unfold Ip.Pk.ok VLen at this; omega
  refine (Ip.Fragment_any p n w (by omega)).mono ?_
  rintro e w' ⟨v, rfl, hrow, hb⟩
  obtain ⟨g, cap, rfl, hg, hr⟩ := Ip.pkRow_of hrow (Ip.frag_spec p h.ok h.df n h.n68).pos
  exact ⟨⟨g, cap, by rw [Ip.frag_err p h.ok h.df n h.n68], hg, hr⟩, hb⟩
theorem row_same {W W' : World} {g : Nat} {l : List Pk} (h : PkRow W g l) (e : W'.heap[g]? = W.heap[g]?) : PkRow W' g l := by obtain ⟨cur, a, b⟩ := h; exact ⟨cur, e.trans a, b⟩
/-- the table beside the row of the fragments -/
structure JR (w : World) (B0 T g : Nat) (l : List Pk) (A : List (Ky × Hf)) (W : World) : Prop where
  one : OneT w T A (fun q => q < B0) W
  row : PkRow W g l
  lt : g < B0
theorem JR.below {w W W' : World} {B0 T g : Nat} {l : List Pk} {A : List (Ky × Hf)} (h : JR w B0 T g l A W) (hb : Below W.heap.size W W') : JR w B0 T g l A W' := ⟨h.one.below hb, h.row.below hb, h.lt⟩
theorem JR.alloc {w W : World} {B0 T g : Nat} {l : List Pk} {A : List (Ky × Hf)} (h : JR w B0 T g l A W) (o : Obj) : JR w B0 T g l A (W.alloc o) := h.below ((Below.refl W.heap.size W).alloc (Nat.le_refl _) o)
theorem JR.put {w W : World} {B0 T g : Nat} {l : List Pk} {A : List (Ky × Hf)} (h : JR w B0 T g l A W) (now : Int) (P q : Pk) (A' : List (Ky × Hf)) (ok : Bool) (err : Int) (he : putA A now P = (A', q, ok, err)) (hs : P.s.size ≤ 9223372036854775807) (hL : A.length < 8) (hnow : In64 now) (hB : B0 ≤ W.heap.size) :
    Calls Tryd.prog 37 #[.pointer (some ⟨T, 0, none⟩), .int .i64 now, .agg #[.int .i64 P.f, .int .i64 P.t, .int .i64 P.pr, .int .i64 P.ttl, .int .i64 P.id, .bool P.df, .bool P.mf, .int .i64 P.off, .string P.s]] W fun x w' => x = PutRes q ok err ∧ JR w B0 T g l A' w' ∧ W.heap.size ≤ w'.heap.size := by
  refine (h.one.put now P A' q ok err he hs (.inl hL) (by omega) hnow).mono ?_
  rintro x w' ⟨hx, ho, hz, hk⟩
  exact ⟨hx, ⟨ho.more (fun q hq => .inl ⟨hq, by omega⟩), row_same h.row (hk g h.lt (by have := h.lt; omega)), h.lt⟩, hz⟩
end Go.Proofs.YtmgjcjacoegocaaDoor.Re
