/-
  Plain law of reassembly: the table as a list of keyed datagrams; a fragment of one datagram among others. No program in sight.
-/
import Derived.Test.YtmeldgnjgogacaaReGood
namespace Go.Proofs.Ytmeldgnjgogacaa.Re
set_option maxRecDepth 100000
open Go.RowKit Go.Proofs.Ytmeldgnjgogacaa.Wire
open Go.Proofs.Ytmeldgnjgogacaa.Ip (Pk vlenB VLen pieceAt count frags count_lt)

def look (A : List (Ky × Hf)) (k : Ky) : Option Hf := (A.find? fun x => decide (k = x.1)).map (·.2)
def NK (A : List (Ky × Hf)) : Prop := (A.map (·.1)).Nodup
theorem look_nil (k : Ky) : look [] k = none := rfl
theorem look_cons (x : Ky × Hf) (A : List (Ky × Hf)) (k : Ky) : look (x :: A) k = if k = x.1 then some x.2 else look A k := by
  unfold look
  rw [List.find?_cons]
  by_cases h : k = x.1
  · rw [decide_eq_true h, if_pos h]; rfl
  · rw [decide_eq_false h, if_neg h]
theorem lk_none {A : List (Ky × Hf)} {k : Ky} : look A k = none ↔ ∀ x ∈ A, x.1 ≠ k := by
  unfold look
  rw [Option.map_eq_none_iff, List.find?_eq_none]
  constructor
  · intro h x hx e; exact h x hx (decide_eq_true e.symm)
  · intro h x hx e; exact h x hx (of_decide_eq_true e).symm
theorem lk_some {A : List (Ky × Hf)} (hn : NK A) {k : Ky} {H : Hf} : look A k = some H ↔ ∃ i, A[i]? = some (k, H) ∧ hasK A k = some i := by
  unfold look
  constructor
  · intro h
    obtain ⟨x, hx, rfl⟩ := Option.map_eq_some_iff.1 h
    have hk : k = x.1 := by have := List.find?_some hx; exact of_decide_eq_true this
    obtain ⟨i, hi⟩ := List.getElem?_of_mem (List.mem_of_find?_eq_some hx)
    refine ⟨i, by rw [hi, hk], ?_⟩
    unfold hasK
    exact at_some hn (by rw [List.getElem?_map, hi, hk]; rfl)
  · rintro ⟨i, hi, -⟩
    cases hf : A.find? fun x => decide (k = x.1) with
    | none => exact absurd (List.mem_of_getElem? hi) (fun q => by have := List.find?_eq_none.1 hf _ q; simp at this)
    | some x =>
      have hk : k = x.1 := by have := List.find?_some hf; exact of_decide_eq_true this
      obtain ⟨j, hj⟩ := List.getElem?_of_mem (List.mem_of_find?_eq_some hf)
      have e1 : (A.map (·.1))[i]? = some k := by rw [List.getElem?_map, hi]; rfl
      have e2 : (A.map (·.1))[j]? = some k := by rw [List.getElem?_map, hj]; simp [hk]
      obtain ⟨h1, h2⟩ := List.getElem?_eq_some_iff.1 e1
      obtain ⟨h3, h4⟩ := List.getElem?_eq_some_iff.1 e2
      have hij : i = j := by
        rcases Nat.lt_trichotomy i j with q | q | q
        · exact absurd (h2.trans h4.symm) ((List.pairwise_iff_getElem.1 hn) i j h1 h3 q)
        · exact q
        · exact absurd (h4.trans h2.symm) ((List.pairwise_iff_getElem.1 hn) j i h3 h1 q)
      subst hij
      rw [hi] at hj
      rw [← Option.some.inj hj]; rfl
theorem look_append {A : List (Ky × Hf)} {k : Ky} {H : Hf} (h : look A k = none) (k' : Ky) : look (A ++ [(k, H)]) k' = if k' = k then some H else look A k' := by
  induction A with
  | nil => rw [List.nil_append, look_cons]
  | cons x A ih =>
    rw [look_cons] at h
    split at h
    · cases h
    · rename_i hne
      rw [List.cons_append, look_cons, ih h, look_cons]
      by_cases e : k' = x.1
      · rw [if_pos e, if_neg (fun q => hne (q.symm.trans e)), if_pos e]
      · rw [if_neg e, if_neg e]
theorem look_set : ∀ {A : List (Ky × Hf)} {i : Nat} {k : Ky} {H0 H : Hf} (_ : A[i]? = some (k, H0)) (_ : NK A) (k' : Ky), look (A.set i (k, H)) k' = if k' = k then some H else look A k'
  | [], i, k, H0, H, h, _, k' => by simp at h
  | x :: A, 0, k, H0, H, h, _, k' => by
    simp at h; subst h
    rw [List.set_cons_zero, look_cons, look_cons]
    by_cases e : k' = k
    · rw [if_pos e, if_pos e]
    · rw [if_neg e, if_neg e, if_neg e]
  | x :: A, i + 1, k, H0, H, h, hn, k' => by
    have h' : A[i]? = some (k, H0) := by simpa using h
    have hn' : NK A := (List.nodup_cons.1 hn).2
    have hne : k ≠ x.1 := fun e => (List.nodup_cons.1 hn).1 (by
      have : k ∈ A.map (·.1) := List.mem_map.2 ⟨_, List.mem_of_getElem? h', rfl⟩
      rw [e] at this; exact this)
    rw [List.set_cons_succ, look_cons, look_set h' hn' k', look_cons]
    by_cases e : k' = x.1
    · rw [if_pos e, if_neg (fun q => hne (q.symm.trans e)), if_pos e]
    · rw [if_neg e, if_neg e]
theorem look_erase : ∀ {A : List (Ky × Hf)} {i : Nat} {k : Ky} {H0 : Hf} (_ : A[i]? = some (k, H0)) (_ : NK A) (k' : Ky), look (A.eraseIdx i) k' = if k' = k then none else look A k'
  | [], i, k, H0, h, _, k' => by simp at h
  | x :: A, 0, k, H0, h, hn, k' => by
    simp at h; subst h
    rw [List.eraseIdx_cons_zero, look_cons]
    by_cases e : k' = k
    · rw [if_pos e, lk_none]
      intro y hy q
      exact (List.nodup_cons.1 hn).1 (List.mem_map.2 ⟨y, hy, q.trans e⟩)
    · rw [if_neg e, if_neg e]
  | x :: A, i + 1, k, H0, h, hn, k' => by
    have h' : A[i]? = some (k, H0) := by simpa using h
    have hn' : NK A := (List.nodup_cons.1 hn).2
    have hne : k ≠ x.1 := fun e => (List.nodup_cons.1 hn).1 (by
      have : k ∈ A.map (·.1) := List.mem_map.2 ⟨_, List.mem_of_getElem? h', rfl⟩
      rw [e] at this; exact this)
    rw [List.eraseIdx_cons_succ, look_cons, look_erase h' hn' k', look_cons]
    by_cases e : k' = x.1
    · rw [if_pos e, if_neg (fun q => hne (q.symm.trans e)), if_pos e]
    · rw [if_neg e, if_neg e]
theorem nk_append {A : List (Ky × Hf)} (hn : NK A) {k : Ky} {H : Hf} (h : look A k = none) : NK (A ++ [(k, H)]) := by
  unfold NK
  rw [List.map_append, List.nodup_append]
  refine ⟨hn, by simp, fun a ha b hb => ?_⟩
  obtain ⟨x, hx, rfl⟩ := List.mem_map.1 ha
  simp at hb; subst hb
  exact lk_none.1 h x hx
theorem nk_set {A : List (Ky × Hf)} (hn : NK A) {i : Nat} {k : Ky} {H0 H : Hf} (h : A[i]? = some (k, H0)) : NK (A.set i (k, H)) := by
  unfold NK
  rw [List.map_set]
  obtain ⟨hl, e⟩ := List.getElem?_eq_some_iff.1 h
  have : (A.map (·.1))[i]'(by simpa using hl) = k := by simp [e]
  rw [show (k, H).1 = (A.map (·.1))[i]'(by simpa using hl) from this.symm, List.set_getElem_self]
  exact hn
theorem nk_erase {A : List (Ky × Hf)} (hn : NK A) (i : Nat) : NK (A.eraseIdx i) := by
  unfold NK
  exact hn.sublist ((List.eraseIdx_sublist A i).map _)
/-- the entry of a key, an old one or a new one: where it stands in the list that Put works on -/
theorem putA_at {A : List (Ky × Hf)} (hn : NK A) (now : Int) (p : Pk) (hv : vldB p = true) (hf : p.mf = true ∨ p.off ≠ 0) :
    ∃ A1 i, putA A now p = putH A1 i (keyOf p) ((look A (keyOf p)).getD (newF now)) p ∧ NK A1 ∧ A1[i]? = some (keyOf p, (look A (keyOf p)).getD (newF now)) ∧ (∀ k', k' ≠ keyOf p → look A1 k' = look A k') ∧ A1.length ≤ A.length + 1 ∧ (∀ x ∈ A1, x ∈ A ∨ x.1 = keyOf p) ∧ ((look A (keyOf p)).isSome = true → A1 = A) := by
  have e1 : putA A now p = match hasK A (keyOf p) with
    | some i => putH A i (keyOf p) ((A[i]?.map (·.2)).getD (newF now)) p
    | none => putH (A ++ [(keyOf p, newF now)]) A.length (keyOf p) (newF now) p := by
    unfold putA
    rw [hv, if_neg (by simp), if_neg (by rintro ⟨a, b⟩; rcases hf with q | q; (rw [a] at q; cases q); exact q b)]
    cases hasK A (keyOf p) <;> rfl
  cases hl : look A (keyOf p) with
  | none =>
    have hk := hasK_none (lk_none.1 hl)
    rw [hk] at e1
    refine ⟨A ++ [(keyOf p, newF now)], A.length, e1, nk_append hn hl, by rw [List.getElem?_append_right (Nat.le_refl _), Nat.sub_self]; rfl, fun k' h' => by rw [look_append hl, if_neg h'], by simp, fun x hx => ?_, fun q => (by cases q)⟩
    rcases List.mem_append.1 hx with q | q
    · exact .inl q
    · simp at q; exact .inr (by rw [q])
  | some H =>
    obtain ⟨i, h1, h2⟩ := (lk_some hn).1 hl
    rw [h2] at e1
    refine ⟨A, i, ?_, hn, h1, fun _ _ => rfl, by omega, fun x hx => .inl hx, fun _ => rfl⟩
    rw [e1]
    show putH A i _ ((Option.map _ A[i]?).getD _) p = _
    rw [h1]; rfl
/-- the datagram that comes out -/
def outP (p : Pk) : Pk := { p with df := false, mf := false, off := 0 }
/-- a fragment of p among others -/
theorem put_good {p : Pk} {n : Nat} (h : CutP p n) {A : List (Ky × Hf)} (hn : NK A) {C : Nat → Bool} {now : Int} (g : Good p n C ((look A (keyOf p)).getD (newF now))) {k : Nat} (hk : k < count p n) (hv : vldB (pieceAt p n k) = true) :
    ∃ A', NK A' ∧ (∀ k', k' ≠ keyOf p → look A' k' = look A k') ∧ A'.length ≤ A.length + 1 ∧ (∀ x ∈ A', x ∈ A ∨ x.1 = keyOf p) ∧
      (((∀ i, i < count p n → C i = true ∨ i = k) ∧ putA A now (pieceAt p n k) = (A', outP p, true, 0) ∧ look A' (keyOf p) = none) ∨
       ((∃ i, i < count p n ∧ C i = false ∧ i ≠ k) ∧ putA A now (pieceAt p n k) = (A', pk0, false, 0) ∧ ∃ H, look A' (keyOf p) = some H ∧ Good p n (fun i => C i || decide (i = k)) H)) := by
  have hm := h.m2
  have hkey : keyOf (pieceAt p n k) = keyOf p := rfl
  have hfr : (pieceAt p n k).mf = true ∨ (pieceAt p n k).off ≠ 0 := by
    by_cases e : k = count p n - 1
    · right
      rw [piece_off h]
      have := Nat.mul_pos h.n0 (show 0 < k by omega)
      omega
    · left; rw [piece_mf h hk]; exact decide_eq_true e
  obtain ⟨A1, i, e1, n1, h1, l1, z1, m1, -⟩ := putA_at hn now (pieceAt p n k) hv hfr
  rw [hkey] at e1 h1 l1 m1
  have gs := good_store h g hk
  have gc := good_confl h g hk
  have gr := g.rej
  have gw := good_whole h gs
  have gb := good_bytes h gs
  generalize (look A (keyOf p)).getD (newF now) = H at *
  unfold putH at e1
  rw [if_neg (by rw [gr]; simp), if_neg (by rw [gc]; simp)] at e1
  by_cases hw : wholeB (storeF H (pieceAt p n k)) = true
  · rw [if_pos hw] at e1
    have hall := gw.1 hw
    obtain ⟨b1, b2⟩ := gb hall
    refine ⟨A1.eraseIdx i, nk_erase n1 i, fun k' h' => by rw [look_erase h1 n1, if_neg h', l1 k' h'], Nat.le_trans (List.length_eraseIdx_le ..) z1, fun x hx => m1 x ((List.eraseIdx_sublist _ _).subset hx), .inl ⟨fun j hj => ?_, ?_, by rw [look_erase h1 n1, if_pos rfl]⟩⟩
    · have := hall j hj
      rw [Bool.or_eq_true, decide_eq_true_eq] at this
      exact this
    · rw [e1]
      unfold outF outP
      rw [b1, b2]
      rfl
  · rw [if_neg hw] at e1
    refine ⟨A1.set i (keyOf p, storeF H (pieceAt p n k)), nk_set n1 h1, fun k' h' => by rw [look_set h1 n1, if_neg h', l1 k' h'], by rw [List.length_set]; exact z1, fun x hx => ?_, .inr ⟨?_, e1, _, by rw [look_set h1 n1, if_pos rfl], gs⟩⟩
    · rcases List.mem_or_eq_of_mem_set hx with q | q
      · exact m1 x q
      · exact .inr (by rw [q])
    · apply Classical.byContradiction
      intro hno
      apply hw
      rw [gw]
      intro j hj
      rw [Bool.or_eq_true, decide_eq_true_eq]
      cases hc : C j with
      | true => exact .inl rfl
      | false => exact .inr (Classical.byContradiction fun hne => hno ⟨j, hj, hc, hne⟩)
end Go.Proofs.Ytmeldgnjgogacaa.Re
