/-
  Plain law of reassembly: the parts of a datagram, put one by one. No program in sight.
-/
import Derived.Test.YtmeldgnjgogacaaReParts
namespace Go.Proofs.Ytmeldgnjgogacaa.Re
set_option maxRecDepth 100000
open Go.RowKit Go.Proofs.Ytmeldgnjgogacaa.Wire
open Go.Proofs.Ytmeldgnjgogacaa.Ip (Pk vlenB VLen pieceAt count frags count_lt frags_succ frags_length)

theorem piece_valid {p : Pk} (hp : vldB p = true) (hdf : p.df = false) (n k : Nat) (h8 : n % 8 = 0) (hn : 0 < n) (hk : n * k < p.s.size) : vldB (pieceAt p n k) = true := by
  have hs := piece_sz (p := p) (n := n) k
  have hm8 : (n * k) % 8 = 0 := by rw [Nat.mul_mod, h8]; simp
  have e1 : (pieceAt p n k).off = p.off + ((n * k : Nat) : Int) := rfl
  have e2 : (pieceAt p n k).mf = (p.mf || decide (n * k + n < p.s.size)) := rfl
  unfold vldB vlenB at *
  rw [hs, e1, e2]
  show decide (VLen p.f p.t p.pr p.ttl p.id p.df _ _ _) = true
  refine decide_eq_true ?_
  have hp := of_decide_eq_true hp
  obtain ⟨f, t, pr, ttl, id, df, mf, off, s⟩ := p
  dsimp only at *
  subst hdf
  generalize n * k = a at *
  obtain ⟨h1, h2, ⟨h3, h4, h5, h6⟩, h7, h8', h9⟩ := hp
  refine ⟨h1, h2, ⟨by omega, by omega, by omega, by omega⟩, ?_, fun _ => by omega, fun h => by cases h⟩
  intro hmf
  by_cases c : a + n < s.size
  · rw [Nat.min_eq_left (by omega)]; omega
  · rw [Nat.min_eq_right (by omega)]
    rw [decide_eq_false c, Bool.or_false] at hmf
    have := h7 hmf
    omega
theorem base_valid (s : ByteArray) (h : s.size ≤ 500) : vldB (baseP s) = true := by
  unfold vldB vlenB baseP
  dsimp only
  refine decide_eq_true ⟨⟨?_, ?_, ?_, ?_⟩, ⟨?_, ?_, ?_, ?_, ?_, ?_⟩, ⟨?_, ?_, ?_, ?_⟩, ?_, ?_, ?_⟩
  all_goals first | omega | (intro h; cases h; done) | (intro h; omega)
theorem base_cut {s : ByteArray} {n : Nat} (h : s.size ≤ 500) (hn : 0 < n) (h2 : n < s.size) : CutP (baseP s) n := ⟨hn, rfl, rfl, h2, by show s.size ≤ 4000; omega⟩
theorem partsL_pos (s : ByteArray) (n : Nat) (hn : 0 < n) : 1 ≤ (partsL s n).length ∧ (partsL s n).length ≤ s.size + 1 := by
  unfold partsL
  split
  · simp
  · rw [frags_length]
    have h1 := (count_lt (baseP s) n 0 hn).2 (by show n * 0 < s.size; omega)
    have h2 := Ip.count_le (baseP s) n hn
    have h3 : (baseP s).s.size = s.size := rfl
    omega
theorem partsL_at {s : ByteArray} {n k : Nat} {P : Pk} (h : ¬ s.size ≤ n) (hP : (partsL s n)[k]? = some P) : k < count (baseP s) n ∧ P = pieceAt (baseP s) n k := by
  unfold partsL at hP
  rw [if_neg h] at hP
  have hk : k < count (baseP s) n := by have := (List.getElem?_eq_some_iff.1 hP).1; rwa [frags_length] at this
  refine ⟨hk, ?_⟩
  unfold frags at hP
  rw [List.getElem?_map, List.getElem?_range hk] at hP
  exact (Option.some.inj hP).symm
theorem count_false_set : ∀ (l : List Bool) (j : Nat), l[j]? = some false → (l.set j true).count false + 1 = l.count false
  | [], j, h => by simp at h
  | x :: l, 0, h => by simp at h; subst h; simp
  | x :: l, j + 1, h => by
    have := count_false_set l j (by simpa using h)
    simp only [List.set_cons_succ, List.count_cons]; omega
theorem set_true_same : ∀ (l : List Bool) (j : Nat), l[j]? = some true → l.set j true = l
  | [], j, h => by simp at h
  | x :: l, 0, h => by simp at h; subst h; rfl
  | x :: l, j + 1, h => by rw [List.set_cons_succ, set_true_same l j (by simpa using h)]
theorem count_false_zero (l : List Bool) : l.count false = 0 ↔ ∀ i, i < l.length → l.getD i false = true := by
  rw [List.count_eq_zero]
  constructor
  · intro h i hi
    rw [List.getD_eq_getElem?_getD, List.getElem?_eq_getElem hi]
    cases hb : l[i] with
    | true => rfl
    | false => exact absurd (hb ▸ List.getElem_mem hi) h
  · intro h hm
    obtain ⟨i, hi⟩ := List.getElem?_of_mem hm
    have hl := (List.getElem?_eq_some_iff.1 hi).1
    have := h i hl
    rw [List.getD_eq_getElem?_getD, hi] at this
    cases this
/-- the table when the parts marked in cm have come -/
def StA (s : ByteArray) (n : Nat) (cm : List Bool) (A : List (Ky × Hf)) : Prop :=
  cm.length = (partsL s n).length ∧ (s.size ≤ n → A = []) ∧ (¬ s.size ≤ n → NK A ∧ (∀ x ∈ A, x.1 = keyOf (baseP s)) ∧ ((cm.count false = 0 ∧ A = []) ∨ (cm.count false ≠ 0 ∧ ∀ now, Good (baseP s) n (fun i => cm.getD i false) ((look A (keyOf (baseP s))).getD (newF now)))))
theorem nk_one {A : List (Ky × Hf)} {k : Ky} (hn : NK A) (hk : ∀ x ∈ A, x.1 = k) : A.length ≤ 1 := by
  match A, hn, hk with
  | [], _, _ => simp
  | [_], _, _ => simp
  | x :: y :: A, hn, hk =>
    exfalso
    have h1 := (List.nodup_cons.1 hn).1
    exact h1 (List.mem_map.2 ⟨y, by simp, (hk y (by simp)).trans (hk x (by simp)).symm⟩)
theorem stA_length {s : ByteArray} {n : Nat} {cm : List Bool} {A : List (Ky × Hf)} (h : StA s n cm A) : A.length ≤ 1 := by
  by_cases hle : s.size ≤ n
  · rw [h.2.1 hle]; simp
  · obtain ⟨h1, h2, -⟩ := h.2.2 hle
    exact nk_one h1 h2
theorem stA_start (s : ByteArray) (n : Nat) (hn : 0 < n) : StA s n (List.replicate (partsL s n).length false) [] := by
  have := (partsL_pos s n hn).1
  refine ⟨by simp, fun _ => rfl, fun hle => ⟨List.nodup_nil, fun x hx => by simp at hx, .inr ⟨by rw [List.count_replicate_self]; omega, fun now => ?_⟩⟩⟩
  rw [look_nil]
  refine good_congr (C := fun _ => false) (good_new now) hn ((count_lt (baseP s) n 0 hn).2 (by show n * 0 < s.size; omega)) (fun i hi => ?_)
  rw [List.getD_eq_getElem?_getD, List.getElem?_replicate]
  split <;> rfl
theorem stA_done {s : ByteArray} {n : Nat} {cm : List Bool} {A : List (Ky × Hf)} (h : StA s n cm A) (hc : cm.count false = 0) : A = [] := by
  by_cases hle : s.size ≤ n
  · exact h.2.1 hle
  · rcases (h.2.2 hle).2.2 with ⟨-, q⟩ | ⟨q, -⟩
    · exact q
    · exact absurd hc q
theorem stA_put {s : ByteArray} {n : Nat} {cm : List Bool} {A : List (Ky × Hf)} (h500 : s.size ≤ 500) (h8 : n % 8 = 0) (hn : 0 < n) (h : StA s n cm A) (hc : cm.count false ≠ 0) {k : Nat} {P : Pk} (hP : (partsL s n)[k]? = some P) (now : Int) :
    ∃ A' q ok, putA A now P = (A', q, ok, 0) ∧ StA s n (cm.set k true) A' ∧ (ok = true ↔ (cm.set k true).count false = 0) ∧ (ok = true → q = baseP s) := by
  have hlen := h.1
  have hkl := (List.getElem?_eq_some_iff.1 hP).1
  by_cases hle : s.size ≤ n
  · have hA := h.2.1 hle
    subst hA
    have e1 : partsL s n = [baseP s] := by unfold partsL; rw [if_pos hle]
    rw [e1] at hP hkl hlen
    have hk0 : k = 0 := by simpa using hkl
    subst hk0
    obtain rfl : baseP s = P := by simpa using hP
    match cm, hlen with
    | [b], _ =>
      refine ⟨[], baseP s, true, ?_, ⟨by simp [e1], fun _ => rfl, fun q => absurd hle q⟩, by simp, fun _ => rfl⟩
      unfold putA
      rw [if_neg (by rw [base_valid s h500]; simp), if_pos ⟨rfl, rfl⟩]
  · obtain ⟨h1, h2, h3⟩ := h.2.2 hle
    obtain ⟨hk, rfl⟩ := partsL_at hle hP
    have hcut := base_cut h500 hn (by omega)
    have hcl : cm.length = count (baseP s) n := by
      rw [hlen]; unfold partsL; rw [if_neg hle, frags_length]
    rcases h3 with ⟨q, -⟩ | ⟨-, hg⟩
    · exact absurd q hc
    have hset : ∀ i, i < count (baseP s) n → (cm.set k true).getD i false = (cm.getD i false || decide (i = k)) := fun i hi => by
      rw [List.getD_eq_getElem?_getD, List.getD_eq_getElem?_getD, List.getElem?_set]
      by_cases e : k = i
      · subst e; rw [if_pos rfl, if_pos (by omega)]; simp
      · rw [if_neg e, decide_eq_false (fun q => e q.symm), Bool.or_false]
    obtain ⟨A', n', l', z', m', hres⟩ := put_good hcut h1 (now := now) (hg now) hk (piece_valid (base_valid s h500) rfl n k h8 hn ((count_lt (baseP s) n k hn).1 hk))
    have hmem : ∀ x ∈ A', x.1 = keyOf (baseP s) := fun x hx => (m' x hx).elim (h2 x) id
    rcases hres with ⟨hall, hput, hl⟩ | ⟨⟨i, hi, hci, hik⟩, hput, H, hl, hgH⟩
    · have hA' : A' = [] := by
        cases A' with
        | nil => rfl
        | cons x A' => exact absurd (hmem x (by simp)) (lk_none.1 hl x (by simp))
      subst hA'
      have hz : (cm.set k true).count false = 0 := by
        rw [count_false_zero]
        intro i hi
        rw [List.length_set] at hi
        rw [hset i (by omega)]
        rcases hall i (by omega) with q | q
        · have q : cm.getD i false = true := q
          rw [q]; rfl
        · rw [q]; simp
      exact ⟨[], _, true, hput, ⟨by rw [List.length_set]; exact hlen, fun _ => rfl, fun _ => ⟨n', hmem, .inl ⟨hz, rfl⟩⟩⟩, by rw [hz]; simp, fun _ => rfl⟩
    · have hz : (cm.set k true).count false ≠ 0 := by
        intro q
        rw [count_false_zero] at q
        have := q i (by rw [List.length_set]; omega)
        rw [hset i hi, decide_eq_false hik, Bool.or_false] at this
        have hci : cm.getD i false = false := hci
        rw [hci] at this; cases this
      refine ⟨A', _, false, hput, ⟨by rw [List.length_set]; exact hlen, fun q => absurd q hle, fun _ => ⟨n', hmem, .inr ⟨hz, fun now' => ?_⟩⟩⟩, by simp [hz], fun q => by cases q⟩
      rw [hl]
      exact good_congr hgH hn (by omega) hset
theorem stA_valid {s : ByteArray} {n k : Nat} {P : Pk} (h500 : s.size ≤ 500) (hP : (partsL s n)[k]? = some P) : P.s.size ≤ 500 := by
  by_cases hle : s.size ≤ n
  · have e1 : partsL s n = [baseP s] := by unfold partsL; rw [if_pos hle]
    rw [e1] at hP
    cases k with
    | zero => obtain rfl : baseP s = P := by simpa using hP
              exact h500
    | succ k => simp at hP
  · obtain ⟨hk, rfl⟩ := partsL_at hle hP
    rw [piece_sz]
    have : (baseP s).s.size = s.size := rfl
    omega
end Go.Proofs.Ytmeldgnjgogacaa.Re
