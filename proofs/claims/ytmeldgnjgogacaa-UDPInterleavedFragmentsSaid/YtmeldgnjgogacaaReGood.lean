/-
  Plain law of reassembly: the fragments of one datagram, in any order, with duplicates. No program in sight.
-/
import Derived.Test.YtmeldgnjgogacaaReL15p
namespace Go.Proofs.Ytmeldgnjgogacaa.Re
set_option maxRecDepth 100000
open Go.RowKit Go.Proofs.Ytmeldgnjgogacaa.Wire
open Go.Proofs.Ytmeldgnjgogacaa.Ip (Pk vlenB VLen pieceAt count frags count_lt)

/-- what bytes laid from o on make of a datagram -/
theorem layN_at (s : ByteArray) (o : Nat) (H : Hf) (hl : H.hv.length = H.by_.length) : ∀ z, o + z ≤ H.by_.length →
    (∀ j, (layN s o H z).hv[j]? = if o ≤ j ∧ j < o + z then some true else H.hv[j]?) ∧
    (∀ j, (layN s o H z).by_[j]? = if o ≤ j ∧ j < o + z ∧ H.hv[j]? = some false then some (s.data.toList.getD (j - o) 0) else H.by_[j]?)
  | 0, _ => ⟨fun j => by rw [if_neg (by omega)]; rfl, fun j => by rw [if_neg (by omega)]; rfl⟩
  | z + 1, hz => by
    obtain ⟨i1, i2⟩ := layN_at s o H hl z (by omega)
    obtain ⟨l1, l2⟩ := layN_len s o H z
    have e : layN s o H (z + 1) = laySet (layN s o H z) (o + z) (s.data.toList.getD z 0) := rfl
    rw [e]
    have hoz : (layN s o H z).hv[o + z]? = H.hv[o + z]? := by rw [i1, if_neg (by omega)]
    have hex : H.hv[o + z]? = some (H.hv[o + z]'(by omega)) := List.getElem?_eq_getElem _
    cases hb : H.hv[o + z]'(by omega) with
    | true =>
      rw [hb] at hex
      rw [laySet_there (hoz.trans hex)]
      refine ⟨fun j => ?_, fun j => ?_⟩
      · rw [i1]
        by_cases h1 : o ≤ j ∧ j < o + z
        · rw [if_pos h1, if_pos (by omega)]
        · rw [if_neg h1]
          by_cases h2 : j = o + z
          · subst h2; rw [hex, if_pos (by omega)]
          · rw [if_neg (by omega)]
      · rw [i2]
        by_cases h1 : o ≤ j ∧ j < o + z ∧ H.hv[j]? = some false
        · rw [if_pos h1, if_pos ⟨h1.1, by omega, h1.2.2⟩]
        · rw [if_neg h1]
          by_cases h2 : j = o + z
          · subst h2; rw [if_neg (by rw [hex]; simp)]
          · rw [if_neg (fun q => h1 ⟨q.1, by omega, q.2.2⟩)]
    | false =>
      rw [hb] at hex
      rw [laySet_new (hoz.trans hex)]
      refine ⟨fun j => ?_, fun j => ?_⟩
      · show ((layN s o H z).hv.set (o + z) true)[j]? = _
        rw [List.getElem?_set]
        by_cases h2 : o + z = j
        · subst h2
          rw [if_pos rfl, if_pos (by omega), if_pos (by omega)]
        · rw [if_neg h2, i1]
          by_cases h1 : o ≤ j ∧ j < o + z
          · rw [if_pos h1, if_pos (by omega)]
          · rw [if_neg h1, if_neg (by omega)]
      · show ((layN s o H z).by_.set (o + z) _)[j]? = _
        rw [List.getElem?_set]
        by_cases h2 : o + z = j
        · subst h2
          rw [if_pos rfl, if_pos (by omega), if_pos ⟨by omega, by omega, hex⟩, Nat.add_sub_cancel_left]
        · rw [if_neg h2, i2]
          by_cases h1 : o ≤ j ∧ j < o + z ∧ H.hv[j]? = some false
          · rw [if_pos h1, if_pos ⟨h1.1, by omega, h1.2.2⟩]
          · rw [if_neg h1, if_neg (fun q => h1 ⟨q.1, by omega, q.2.2⟩)]
/-- the fragments of p that are in C have come -/
structure Good (p : Pk) (n : Nat) (C : Nat → Bool) (H : Hf) : Prop where
  inv : HInv H
  rej : H.rej = false
  le : H.by_.length ≤ p.s.size
  hv : ∀ j, j < H.by_.length → H.hv[j]? = some (C (j / n))
  by_ : ∀ j, j < H.by_.length → C (j / n) = true → H.by_[j]? = p.s.data.toList[j]?
  top : ∀ j, H.by_.length ≤ j → j < p.s.size → C (j / n) = false
  ended : H.ended = C (count p n - 1)
  en : H.ended = true → H.en = p.s.size
  started : H.started = C 0
  first : H.started = true → H.first.ttl = p.ttl
/-- a datagram that is cut into at least two -/
structure CutP (p : Pk) (n : Nat) : Prop where
  n0 : 0 < n
  off : p.off = 0
  mf : p.mf = false
  two : n < p.s.size
  le : p.s.size ≤ 4000
section
variable {p : Pk} {n : Nat} {C : Nat → Bool} {H : Hf}
theorem CutP.m2 (h : CutP p n) : 2 ≤ count p n := by
  have := (count_lt p n 1 h.n0).2 (by have := h.two; omega)
  omega
theorem good_new {p : Pk} {n : Nat} (now : Int) : Good p n (fun _ => false) (newF now) :=
  ⟨hinv_new now, rfl, Nat.zero_le _, fun j hj => by simp [newF] at hj, fun j hj => by simp [newF] at hj, fun _ _ _ => rfl, rfl, fun q => (by cases q), rfl, fun q => (by cases q)⟩
/-- byte j is of piece k -/
theorem in_piece (h : CutP p n) {k j : Nat} (hk : k < count p n) (hj : j < p.s.size) : (n * k ≤ j ∧ j < n * k + (min (n * k + n) p.s.size - n * k)) ↔ j / n = k := by
  have h1 := (count_lt p n k h.n0).1 hk
  have hn := h.n0
  constructor
  · rintro ⟨a, b⟩
    have h2 : j < n * k + n := by omega
    have h3 : k ≤ j / n := (Nat.le_div_iff_mul_le hn).2 (by rw [Nat.mul_comm]; exact a)
    have h4 : j / n < k + 1 := (Nat.div_lt_iff_lt_mul hn).2 (by rw [Nat.mul_comm, Nat.mul_add]; omega)
    omega
  · rintro rfl
    have h2 : n * (j / n) ≤ j := Nat.mul_div_le j n
    have h3 : j < n * (j / n) + n := Nat.lt_mul_div_succ j hn
    omega
theorem piece_off (h : CutP p n) (k : Nat) : (pieceAt p n k).off = ((n * k : Nat) : Int) := by
  unfold pieceAt; dsimp only; rw [h.off]; omega
theorem piece_sz {p : Pk} {n : Nat} (k : Nat) : (pieceAt p n k).s.size = min (n * k + n) p.s.size - n * k := by
  unfold pieceAt
  dsimp only
  rw [ByteArray.size_extract]
  omega
theorem piece_mf (h : CutP p n) {k : Nat} (hk : k < count p n) : (pieceAt p n k).mf = decide (k ≠ count p n - 1) := by
  unfold pieceAt
  dsimp only
  rw [h.mf, Bool.false_or]
  have h1 := count_lt p n (k + 1) h.n0
  rw [Nat.mul_add, Nat.mul_one] at h1
  exact decide_eq_decide.2 ⟨fun q => by have := h1.2 q; omega, fun q => h1.1 (by omega)⟩
theorem piece_byte {p : Pk} {n : Nat} (k i : Nat) (hi : n * k + i < min (n * k + n) p.s.size) : (pieceAt p n k).s.data.toList.getD i 0 = p.s.data.toList.getD (n * k + i) 0 := by
  have hb : (pieceAt p n k).s.data.toList = (p.s.data.toList.take (min (n * k + n) p.s.size)).drop (n * k) := by
    unfold pieceAt
    dsimp only
    rw [ByteArray.data_extract]
    simp [List.drop_take]
  rw [hb, List.getD_eq_getElem?_getD, List.getD_eq_getElem?_getD, List.getElem?_drop, List.getElem?_take, if_pos hi]
/-- a fragment of p does not conflict -/
theorem good_confl (h : CutP p n) (g : Good p n C H) {k : Nat} (hk : k < count p n) : conflB H (pieceAt p n k) = false := by
  have hsz := piece_sz (p := p) (n := n) k
  have hof := piece_off h k
  have h1 := (count_lt p n k h.n0).1 hk
  have htn : (pieceAt p n k).off.toNat = n * k := by rw [hof]; omega
  have hd : diffAny H (pieceAt p n k) (pieceAt p n k).s.size = false := by
    unfold diffAny
    rw [List.any_eq_false]
    intro i hi
    have hi := List.mem_range.1 hi
    rw [htn]
    unfold differsB
    rw [htn, Nat.add_sub_cancel_left]
    rw [hsz] at hi
    rw [piece_byte k i (by omega)]
    rcases Nat.lt_or_ge (n * k + i) H.by_.length with hl | hl
    · have e1 := g.hv _ hl
      cases hc : C ((n * k + i) / n) with
      | false => rw [hc] at e1; simp [List.getD_eq_getElem?_getD, e1]
      | true =>
        have e2 := g.by_ _ hl hc
        simp only [List.getD_eq_getElem?_getD, e2]
        simp
    · have : H.hv[n * k + i]? = none := List.getElem?_eq_none (by rw [g.inv.len]; exact hl)
      simp [List.getD_eq_getElem?_getD, this]
  unfold conflB
  rw [hd, hsz, hof]
  have hle : n * k + (min (n * k + n) p.s.size - n * k) ≤ p.s.size := by omega
  have a1 : (H.ended && decide (H.en < ((n * k : Nat) : Int) + ((min (n * k + n) p.s.size - n * k : Nat) : Int))) = false := by
    cases he : H.ended with
    | false => rfl
    | true => rw [g.en he, Bool.true_and]; exact decide_eq_false (by omega)
  rw [a1, piece_mf h hk]
  by_cases hm : k = count p n - 1
  · have hlast : n * k + (min (n * k + n) p.s.size - n * k) = p.s.size := by
      have := (not_congr (count_lt p n (k + 1) h.n0)).1 (by omega)
      rw [Nat.mul_add, Nat.mul_one] at this
      omega
    have a2 : decide (((n * k : Nat) : Int) + ((min (n * k + n) p.s.size - n * k : Nat) : Int) < (H.by_.length : Int)) = false := decide_eq_false (by have := g.le; omega)
    have a3 : (H.ended && decide (((n * k : Nat) : Int) + ((min (n * k + n) p.s.size - n * k : Nat) : Int) ≠ H.en)) = false := by
      cases he : H.ended with
      | false => rfl
      | true => rw [g.en he, Bool.true_and]; exact decide_eq_false (by omega)
    rw [a2, a3]; simp
  · rw [decide_eq_true hm]; simp
/-- and it is stored -/
theorem good_store (h : CutP p n) (g : Good p n C H) {k : Nat} (hk : k < count p n) : Good p n (fun i => C i || decide (i = k)) (storeF H (pieceAt p n k)) := by
  have hsz := piece_sz (p := p) (n := n) k
  have hof := piece_off h k
  have h1 := (count_lt p n k h.n0).1 hk
  have hn := h.n0
  have htn : (pieceAt p n k).off.toNat = n * k := by rw [hof]; omega
  have hz0 : 0 < min (n * k + n) p.s.size - n * k := by omega
  have hinv := hinv_store g.inv (pieceAt p n k) (by rw [hof]; omega) (by rw [hof, hsz]; have := h.le; omega)
  have hmf := piece_mf h hk
  have hpt : (pieceAt p n k).ttl = p.ttl := rfl
  obtain ⟨q, hq⟩ : ∃ q, pieceAt p n k = q := ⟨_, rfl⟩
  have hby : ∀ i, n * k + i < min (n * k + n) p.s.size → q.s.data.toList.getD i 0 = p.s.data.toList.getD (n * k + i) 0 := fun i hi => by rw [← hq]; exact piece_byte k i hi
  rw [hq] at hsz hof htn hinv hmf hpt ⊢
  -- the parts of the store
  obtain ⟨G, hG⟩ : ∃ G, growF H (q.off.toNat + q.s.size) = G := ⟨_, rfl⟩
  have gl : G.by_.length = max H.by_.length (n * k + q.s.size) := by rw [← hG, htn]; simp [growF]; omega
  have gh : G.hv.length = G.by_.length := by rw [← hG]; simp [growF, g.inv.len]
  have gv : ∀ j, j < H.by_.length → G.hv[j]? = H.hv[j]? ∧ G.by_[j]? = H.by_[j]? := fun j hj => by
    rw [← hG]
    exact ⟨List.getElem?_append_left (by rw [g.inv.len]; exact hj), List.getElem?_append_left hj⟩
  have gn : ∀ j, H.by_.length ≤ j → j < G.by_.length → G.hv[j]? = some false := fun j hj hj2 => by
    rw [← hG] at hj2 ⊢
    show (H.hv ++ _)[j]? = _
    rw [List.getElem?_append_right (by rw [g.inv.len]; exact hj), List.getElem?_replicate]
    rw [if_pos]
    simp [growF] at hj2
    rw [g.inv.len]; omega
  have lay := layN_at q.s (n * k) G gh q.s.size (by rw [gl]; omega)
  have lst := layN_start q.s (n * k) G q.s.size
  have lln := layN_len q.s (n * k) G q.s.size
  obtain ⟨Y, hY⟩ : ∃ Y, layN q.s (n * k) G q.s.size = Y := ⟨_, rfl⟩
  rw [hY] at lay lst lln
  have gs : G.started = H.started ∧ G.first = H.first ∧ G.rej = H.rej ∧ G.ended = H.ended ∧ G.en = H.en := by rw [← hG]; exact ⟨rfl, rfl, rfl, rfl, rfl⟩
  have hst : storeF H q = firstF (endF Y q) q := by unfold storeF; rw [hG, htn, hY]
  have same : (storeF H q).by_ = Y.by_ ∧ (storeF H q).hv = Y.hv ∧ (storeF H q).rej = Y.rej := by
    rw [hst]
    unfold firstF endF
    split <;> split <;> exact ⟨rfl, rfl, rfl⟩
  have hend : (storeF H q).ended = (H.ended || !q.mf) ∧ ((storeF H q).ended = true → (storeF H q).en = p.s.size) := by
    have e0 : (storeF H q).ended = (endF Y q).ended ∧ (storeF H q).en = (endF Y q).en := by
      rw [hst]
      unfold firstF
      split <;> exact ⟨rfl, rfl⟩
    rw [e0.1, e0.2]
    unfold endF
    cases hm : q.mf with
    | true =>
      rw [if_pos rfl]
      rw [lst.2.2.2.2.1, gs.2.2.2.1, lst.2.2.2.2.2, gs.2.2.2.2]
      exact ⟨by simp, fun he => g.en he⟩
    | false =>
      rw [if_neg (by simp)]
      refine ⟨by simp, fun _ => ?_⟩
      show q.off + (q.s.size : Int) = _
      rw [hm] at hmf
      have hk' : k = count p n - 1 := by
        rcases Decidable.em (k = count p n - 1) with e | e
        · exact e
        · rw [decide_eq_true e] at hmf; cases hmf
      have := (not_congr (count_lt p n (k + 1) h.n0)).1 (by omega)
      rw [Nat.mul_add, Nat.mul_one] at this
      rw [hof, hsz]; omega
  have hfst : (storeF H q).started = (H.started || decide (k = 0)) ∧ ((storeF H q).started = true → (storeF H q).first.ttl = p.ttl) := by
    have e0 : (endF Y q).started = H.started ∧ (endF Y q).first = H.first := by
      unfold endF
      split
      · exact ⟨lst.2.1.trans gs.1, lst.2.2.1.trans gs.2.1⟩
      · exact ⟨lst.2.1.trans gs.1, lst.2.2.1.trans gs.2.1⟩
    rw [hst]
    unfold firstF
    have ez : q.off = 0 ↔ k = 0 := by
      rw [hof]
      constructor
      · intro e
        rcases Nat.eq_zero_or_pos k with r | r
        · exact r
        · have := Nat.mul_pos hn r; omega
      · rintro rfl; simp
    by_cases hc : q.off = 0 ∧ (endF Y q).started = false
    · rw [if_pos hc]
      exact ⟨by show true = _; rw [decide_eq_true (ez.1 hc.1)]; simp, fun _ => hpt⟩
    · rw [if_neg hc, e0.1, e0.2]
      refine ⟨?_, fun he => g.first he⟩
      cases hs : H.started with
      | true => rfl
      | false =>
        rw [Bool.false_or, eq_comm]
        exact decide_eq_false (fun e => hc ⟨ez.2 e, by rw [e0.1, hs]⟩)
  have lenY : Y.by_.length = max H.by_.length (n * k + q.s.size) := lln.1.trans gl
  have inp := fun j (hj : j < p.s.size) => in_piece h hk hj
  rw [← hsz] at inp
  refine ⟨hinv, by rw [same.2.2, lst.2.2.2.1, gs.2.2.1]; exact g.rej, ?_, ?_, ?_, ?_, ?_, hend.2, ?_, hfst.2⟩
  · rw [same.1, lenY]; have := g.le; omega
  · intro j hj
    rw [same.1, lenY] at hj
    rw [same.2.1, lay.1]
    have hjs : j < p.s.size := by have := g.le; omega
    by_cases hin : n * k ≤ j ∧ j < n * k + q.s.size
    · rw [if_pos hin, (inp j hjs).1 hin]; simp
    · rw [if_neg hin]
      have hne : j / n ≠ k := fun e => hin ((inp j hjs).2 e)
      rw [decide_eq_false hne, Bool.or_false]
      rcases Nat.lt_or_ge j H.by_.length with hl | hl
      · rw [(gv j hl).1]; exact g.hv j hl
      · rw [gn j hl (by rw [gl]; exact hj), g.top j hl hjs]
  · intro j hj hc
    rw [same.1, lenY] at hj
    rw [same.1, lay.2]
    have hjs : j < p.s.size := by have := g.le; omega
    have hget : p.s.data.toList[j]? = some (p.s.data.toList.getD j 0) := by
      have hl : j < p.s.data.toList.length := hjs
      rw [List.getD_eq_getElem?_getD, List.getElem?_eq_getElem hl]; rfl
    by_cases hin : n * k ≤ j ∧ j < n * k + q.s.size ∧ G.hv[j]? = some false
    · rw [if_pos hin, hby (j - n * k) (by omega), hget]
      congr 2; omega
    · rw [if_neg hin]
      rcases Nat.lt_or_ge j H.by_.length with hl | hl
      · rw [(gv j hl).2]
        refine g.by_ j hl ?_
        cases hcj : C (j / n) with
        | true => rfl
        | false =>
          rw [hcj, Bool.false_or] at hc
          have e := of_decide_eq_true hc
          exfalso
          have := (inp j hjs).2 e
          exact hin ⟨this.1, this.2, by rw [(gv j hl).1, g.hv j hl, hcj]⟩
      · exfalso
        rw [g.top j hl hjs, Bool.false_or] at hc
        have := (inp j hjs).2 (of_decide_eq_true hc)
        exact hin ⟨this.1, this.2, gn j hl (by rw [gl]; exact hj)⟩
  · intro j hj hjs
    rw [same.1, lenY] at hj
    rw [g.top j (by omega) hjs, Bool.false_or]
    exact decide_eq_false (fun e => by have := (inp j hjs).2 e; omega)
  · rw [hend.1, g.ended, hmf]
    by_cases e : k = count p n - 1
    · rw [decide_eq_false (fun q => q e), decide_eq_true e.symm]; rfl
    · rw [decide_eq_true e, decide_eq_false (fun q => e q.symm)]; rfl
  · rw [hfst.1, g.started]
    congr 1
    exact decide_eq_decide.2 eq_comm
theorem good_whole (h : CutP p n) (g : Good p n C H) : wholeB H = true ↔ ∀ i, i < count p n → C i = true := by
  have hm := h.m2
  have hn := h.n0
  have hlc : H.hv.count true ≤ H.hv.length := List.count_le_length
  unfold wholeB
  rw [Bool.and_eq_true, decide_eq_true_eq]
  constructor
  · rintro ⟨he, hc⟩ i hi
    rw [g.en he, g.inv.cnt] at hc
    have h2 : H.hv.count true = H.hv.length := by have := g.le; have := g.inv.len; omega
    have h3 : H.by_.length = p.s.size := by have := g.le; have := g.inv.len; omega
    have hall := List.count_eq_length.1 h2
    have hi2 := (count_lt p n i hn).1 hi
    have e1 := g.hv (n * i) (by omega)
    have e2 := hall _ (List.mem_of_getElem? e1)
    rw [Nat.mul_div_cancel_left i hn] at e2
    exact e2.symm
  · intro hc
    have he : H.ended = true := by rw [g.ended]; exact hc _ (by omega)
    refine ⟨he, ?_⟩
    have h3 : H.by_.length = p.s.size := by
      rcases Nat.lt_or_ge H.by_.length p.s.size with q | q
      · have := g.top _ (Nat.le_refl _) q
        rw [hc _ ((count_lt p n _ hn).2 (Nat.lt_of_le_of_lt (Nat.mul_div_le _ n) q))] at this
        cases this
      · have := g.le; omega
    rw [g.en he, g.inv.cnt]
    have : H.hv.count true = H.hv.length := by
      rw [List.count_eq_length]
      intro b hb
      obtain ⟨j, hj⟩ := List.getElem?_of_mem hb
      have hjl : j < H.by_.length := by have := (List.getElem?_eq_some_iff.1 hj).1; have := g.inv.len; omega
      have e1 := g.hv j hjl
      rw [hj] at e1
      have e2 := Option.some.inj e1
      rw [e2, hc _ ((count_lt p n _ hn).2 (Nat.lt_of_le_of_lt (Nat.mul_div_le _ n) (by omega)))]
    rw [this, g.inv.len, h3]
theorem good_bytes (h : CutP p n) (g : Good p n C H) (hc : ∀ i, i < count p n → C i = true) : H.by_ = p.s.data.toList ∧ H.first.ttl = p.ttl := by
  have hn := h.n0
  have hm := h.m2
  have h3 : H.by_.length = p.s.size := by
    rcases Nat.lt_or_ge H.by_.length p.s.size with q | q
    · have := g.top _ (Nat.le_refl _) q
      rw [hc _ ((count_lt p n _ hn).2 (Nat.lt_of_le_of_lt (Nat.mul_div_le _ n) q))] at this
      cases this
    · have := g.le; omega
  refine ⟨?_, g.first (by rw [g.started]; exact hc 0 (by omega))⟩
  apply List.ext_getElem?
  intro j
  rcases Nat.lt_or_ge j H.by_.length with q | q
  · exact g.by_ j q (hc _ ((count_lt p n _ hn).2 (Nat.lt_of_le_of_lt (Nat.mul_div_le _ n) (by omega))))
  · rw [List.getElem?_eq_none q, List.getElem?_eq_none (by show p.s.size ≤ j; omega)]
theorem good_congr {C' : Nat → Bool} (g : Good p n C H) (hn : 0 < n) (hm : 0 < count p n) (hc : ∀ i, i < count p n → C' i = C i) : Good p n C' H := by
  have hd : ∀ j, j < p.s.size → C' (j / n) = C (j / n) := fun j hj => hc _ ((count_lt p n _ hn).2 (Nat.lt_of_le_of_lt (Nat.mul_div_le _ n) hj))
  exact ⟨g.inv, g.rej, g.le, fun j hj => by rw [hd j (by have := g.le; omega)]; exact g.hv j hj, fun j hj q => g.by_ j hj (by rw [← hd j (by have := g.le; omega)]; exact q),
    fun j hj q => by rw [hd j q]; exact g.top j hj q, by rw [hc _ (by omega)]; exact g.ended, g.en, by rw [hc _ (by omega)]; exact g.started, g.first⟩
end
end Go.Proofs.Ytmeldgnjgogacaa.Re
