/-
  Plain laws of fragments: they are valid, fit, follow one another, and hold the payload. No program in sight.
-/
import Derived.Test.YtmcfllogcmnnoaaDoorIpPlain
import Derived.Test.YtmcfllogcmnnoaaDoorFrag3
namespace Go.Proofs.YtmcfllogcmnnoaaDoor.Ip
set_option maxRecDepth 100000
open Go.RowKit Go.Proofs.YtmcfllogcmnnoaaDoor.Wire

/-- the payloads of datagrams, one behind the other -/
def catP (l : List Pk) : List UInt8 := l.flatMap (·.s.data.toList)
theorem catP_append (l m : List Pk) : catP (l ++ m) = catP l ++ catP m := by simp [catP]
theorem catP_one (x : Pk) : catP [x] = x.s.data.toList := by simp [catP]
theorem catP_snoc (l : List Pk) (x : Pk) : catP (l ++ [x]) = catP l ++ x.s.data.toList := by rw [catP_append, catP_one]
theorem piece_bytes (p : Pk) (n k : Nat) : (pieceAt p n k).s.data.toList = (p.s.data.toList.take (n * k + n)).drop (n * k) := by
  show (p.s.extract (n * k) (min (n * k + n) p.s.size)).data.toList = _
  rw [ByteArray.data_extract, Array.toList_extract]
  simp only [List.extract_eq_drop_take']
  have hl : p.s.data.toList.length = p.s.size := rfl
  by_cases h : n * k + n ≤ p.s.size
  · rw [Nat.min_eq_left h]
  · rw [Nat.min_eq_right (by omega), List.take_of_length_le (by omega), List.take_of_length_le (by omega)]
theorem cat_frags (p : Pk) (n k : Nat) : catP (frags p n k) = p.s.data.toList.take (n * k) := by
  induction k with
  | zero => simp [frags, catP]
  | succ k ih =>
    rw [frags_succ, catP_snoc, ih, piece_bytes, Nat.mul_succ]
    have : p.s.data.toList.take (n * k) = (p.s.data.toList.take (n * k + n)).take (n * k) := by rw [List.take_take, Nat.min_eq_left (by omega)]
    rw [this, List.take_append_drop]
theorem frags_get (p : Pk) (n m i : Nat) (h : i < m) : (frags p n m)[i]? = some (pieceAt p n i) := by simp [frags, h]
theorem frags_take (p : Pk) (n m i : Nat) (h : i ≤ m) : (frags p n m).take i = frags p n i := by
  simp [frags, ← List.map_take, List.take_range, Nat.min_eq_left h]
theorem piece_size (p : Pk) (n k : Nat) : (pieceAt p n k).s.size = min (n * k + n) p.s.size - n * k := by
  show (p.s.extract (n * k) (min (n * k + n) p.s.size)).size = _
  rw [ByteArray.size_extract]; omega
theorem piece_ok (p : Pk) (hp : p.ok) (hdf : p.df = false) (n k : Nat) (h8 : n % 8 = 0) (hn : 0 < n) (hk : n * k < p.s.size) : (pieceAt p n k).ok := by
  have hs := piece_size p n k
  have hm8 : (n * k) % 8 = 0 := by rw [Nat.mul_mod, h8]; simp
  have e1 : (pieceAt p n k).off = p.off + ((n * k : Nat) : Int) := rfl
  have e2 : (pieceAt p n k).mf = (p.mf || decide (n * k + n < p.s.size)) := rfl
  unfold Pk.ok at *
  rw [hs, e1, e2]
  show VLen p.f p.t p.pr p.ttl p.id p.df _ _ _
  obtain ⟨f, t, pr, ttl, id, df, mf, off, s⟩ := p
  dsimp only at *
  subst hdf
  generalize n * k = a at *
  obtain ⟨h1, h2, ⟨h3, h4, h5, h6⟩, h7, h8', h9⟩ := hp
  refine ⟨h1, h2, ⟨by omega, by omega, by omega, by omega⟩, ?_, fun _ => by omega, fun h => by cases h⟩
  intro hmf
  by_cases c : a + n < s.size
  · rw [Nat.min_eq_left (by omega)]; omega
  · rw [Nat.min_eq_right (by omega)]
    rw [decide_eq_false c, Bool.or_false] at hmf
    have := h7 hmf
    omega
theorem fragN_bd (n : Int) (h : 68 ≤ n) : 48 ≤ fragN n ∧ ((fragN n : Nat) : Int) ≤ n - 20 ∧ fragN n % 8 = 0 := by unfold fragN; omega
/-- all that holds of the fragments -/
structure FragSpec (p : Pk) (n : Int) (l : List Pk) : Prop where
  pos : 0 < l.length
  le : l.length ≤ 4001
  cat : catP l = p.s.data.toList
  one : l.length = 1 ↔ (p.s.size : Int) + 20 ≤ n
  at_ : ∀ (i : Nat) (q : Pk), l[i]? = some q → q.ok ∧ 20 + (q.s.size : Int) ≤ n ∧ q.off = p.off + (((catP (l.take i)).length : Nat) : Int) ∧ q.mf = (p.mf || decide (i + 1 < l.length)) ∧ { q with off := p.off, mf := p.mf, s := p.s : Pk } = p
theorem frag_err (p : Pk) (hp : p.ok) (hdf : p.df = false) (n : Int) (h : 68 ≤ n) : fragErr p n = 0 := by
  unfold Pk.ok at hp
  unfold fragErr
  rw [if_neg (by simpa using hp), if_neg (by omega), hdf]
  simp
theorem frag_spec (p : Pk) (hp : p.ok) (hdf : p.df = false) (n : Int) (h : 68 ≤ n) : FragSpec p n (fragList p n) := by
  have hp0 := hp
  unfold Pk.ok at hp0
  have hs4 : p.s.size ≤ 4000 := by unfold VLen at hp0; omega
  by_cases hbig : 20 + (p.s.size : Int) ≤ n
  · have e : fragList p n = [p] := by
      unfold fragList
      rw [if_neg (by simpa using hp0), if_neg (by omega), if_pos hbig]
    rw [e]
    refine ⟨by simp, by simp, catP_one p, ⟨fun _ => by omega, fun _ => rfl⟩, fun i q hq => ?_⟩
    match i, hq with
    | 0, hq =>
      simp only [List.getElem?_cons_zero, Option.some.injEq] at hq
      subst hq
      exact ⟨hp, hbig, by simp [catP], by simp, rfl⟩
  · have e : fragList p n = frags p (fragN n) (count p (fragN n)) := by
      unfold fragList
      rw [if_neg (by simpa using hp0), if_neg (by omega), if_neg hbig, if_neg (by simp [hdf])]
    rw [e]
    obtain ⟨hN1, hN2, hN3⟩ := fragN_bd n h
    generalize hN : fragN n = N at *
    have hc1 : 1 < count p N := (count_lt p N 1 (by omega)).2 (by omega)
    have hcl := count_le p N (by omega)
    have hcat : catP (frags p N (count p N)) = p.s.data.toList := by
      rw [cat_frags]
      apply List.take_of_length_le
      have hl : p.s.data.toList.length = p.s.size := rfl
      rcases Nat.lt_or_ge (N * count p N) p.s.size with c | c
      · exact absurd ((count_lt p N _ (by omega)).2 c) (Nat.lt_irrefl _)
      · omega
    refine ⟨by rw [frags_length]; omega, by rw [frags_length]; omega, hcat, ⟨fun hq => by rw [frags_length] at hq; omega, fun hq => by omega⟩, fun i q hq => ?_⟩
    have hi : i < count p N := by
      rcases Nat.lt_or_ge i (count p N) with c | c
      · exact c
      · rw [List.getElem?_eq_none (by rw [frags_length]; omega)] at hq; cases hq
    rw [frags_get p N _ i hi, Option.some.injEq] at hq
    subst hq
    have hlt := (count_lt p N i (by omega)).1 hi
    refine ⟨piece_ok p hp hdf N i hN3 (by omega) hlt, ?_, ?_, ?_, rfl⟩
    · have := piece_size p N i
      omega
    · rw [frags_take p N _ i (by omega), cat_frags, List.length_take, Nat.min_eq_left (by have hl : p.s.data.toList.length = p.s.size := rfl; omega)]
      rfl
    · rw [frags_length]
      show (p.mf || decide (N * i + N < p.s.size)) = _
      congr 1
      have := count_lt p N (i + 1) (by omega)
      rw [Nat.mul_succ] at this
      rw [decide_eq_decide]
      exact this.symm
end Go.Proofs.YtmcfllogcmnnoaaDoor.Ip
