/-
  Plain law of reassembly: the parts of a datagram in order, fragments of others between them. No program in sight.
-/
import Derived.Test.YtmeldgnjgogacaaReAny
namespace Go.Proofs.Ytmeldgnjgogacaa.Re
set_option maxRecDepth 100000
open Go.RowKit Go.Proofs.Ytmeldgnjgogacaa.Wire
open Go.Proofs.Ytmeldgnjgogacaa.Ip (Pk vlenB VLen pieceAt count frags count_lt frags_succ frags_length)

theorem nodup_sub {α : Type} [DecidableEq α] : ∀ (l m : List α), l.Nodup → (∀ x ∈ l, x ∈ m) → l.length ≤ m.length
  | [], m, _, _ => Nat.zero_le _
  | x :: l, m, hn, hs => by
    obtain ⟨h1, h2⟩ := List.nodup_cons.1 hn
    have hx := hs x (by simp)
    have ih := nodup_sub l (m.erase x) h2 (fun y hy => (List.mem_erase_of_ne (fun e => h1 (by rw [← e]; exact hy))).2 (hs y (by simp [hy])))
    have := List.length_erase_of_mem hx
    have := List.length_pos_of_mem hx
    simp only [List.length_cons]; omega
/-- Put leaves other datagrams alone -/
theorem putA_others {A : List (Ky × Hf)} (hn : NK A) (now : Int) (p : Pk) (hv : vldB p = true) : ∃ A' q ok err, putA A now p = (A', q, ok, err) ∧ NK A' ∧ (∀ k', k' ≠ keyOf p → look A' k' = look A k') ∧ ∀ x ∈ A', x ∈ A ∨ x.1 = keyOf p := by
  by_cases hf : p.mf = false ∧ p.off = 0
  · exact ⟨A, p, true, 0, by unfold putA; rw [if_neg (by rw [hv]; simp), if_pos hf], hn, fun _ _ => rfl, fun x hx => .inl hx⟩
  · have hf' : p.mf = true ∨ p.off ≠ 0 := by
      cases hm : p.mf with
      | true => exact .inl rfl
      | false => exact .inr fun h0 => hf ⟨hm, h0⟩
    obtain ⟨A1, i, e1, n1, h1, l1, z1, m1, -⟩ := putA_at hn now p hv hf'
    rw [e1]
    unfold putH
    have hset : ∀ (H : Hf), NK (A1.set i (keyOf p, H)) ∧ (∀ k', k' ≠ keyOf p → look (A1.set i (keyOf p, H)) k' = look A k') ∧ ∀ x ∈ A1.set i (keyOf p, H), x ∈ A ∨ x.1 = keyOf p := fun H => by
      refine ⟨nk_set n1 h1, fun k' h' => by rw [look_set h1 n1, if_neg h', l1 k' h'], fun x hx => ?_⟩
      rcases List.mem_or_eq_of_mem_set hx with q | q
      · exact m1 x q
      · exact .inr (by rw [q])
    split
    · exact ⟨_, _, _, _, rfl, n1, l1, m1⟩
    · split
      · exact ⟨_, _, _, _, rfl, hset _⟩
      · split
        · exact ⟨_, _, _, _, rfl, nk_erase n1 i, fun k' h' => by rw [look_erase h1 n1, if_neg h', l1 k' h'], fun x hx => m1 x ((List.eraseIdx_sublist _ _).subset hx)⟩
        · exact ⟨_, _, _, _, rfl, hset _⟩
def otherK (w : Nat) : Ky := ⟨1 + (w : Int) % 3, 9, 17, (w : Int) % 12⟩
def keys12 : List Ky := keyOf (baseP ⟨#[]⟩) :: (List.range 6).map otherK
theorem key_base (s : ByteArray) : keyOf (baseP s) = ⟨1, 2, 6, 77⟩ := rfl
theorem other_ne (w : Nat) (s : ByteArray) : otherK w ≠ keyOf (baseP s) := fun e => by
  have : (9 : Int) = 2 := congrArg Ky.t e
  omega
/-- the first j parts have come, fragments of others too -/
structure St12 (s : ByteArray) (n j : Nat) (A : List (Ky × Hf)) : Prop where
  nk : NK A
  keys : ∀ x ∈ A, x.1 ∈ keys12
  small : s.size ≤ n → look A (keyOf (baseP s)) = none
  good : ¬ s.size ≤ n → j < (partsL s n).length → ∀ now, Good (baseP s) n (fun i => decide (i < j)) ((look A (keyOf (baseP s))).getD (newF now))
theorem St12.length {s : ByteArray} {n j : Nat} {A : List (Ky × Hf)} (h : St12 s n j A) : A.length ≤ 7 := by
  have hn : (A.map (·.1)).Nodup := h.nk
  have := nodup_sub (A.map (·.1)) keys12 hn (fun k hk => by
    obtain ⟨x, hx, rfl⟩ := List.mem_map.1 hk
    exact h.keys x hx)
  simpa [keys12] using this
theorem st12_start (s : ByteArray) (n : Nat) (hn : 0 < n) : St12 s n 0 [] :=
  ⟨List.nodup_nil, fun x hx => by simp at hx, fun _ => rfl, fun hle _ now => by
    rw [look_nil]
    exact good_congr (C := fun _ => false) (good_new now) hn ((count_lt (baseP s) n 0 hn).2 (by show n * 0 < s.size; omega)) (fun i hi => decide_eq_false (by omega))⟩
theorem st12_other {s : ByteArray} {n j : Nat} {A : List (Ky × Hf)} (h : St12 s n j A) {p : Pk} (hv : vldB p = true) {w : Nat} (hw : w < 6) (hk : keyOf p = otherK w) : ∃ A' q ok err, putA A 0 p = (A', q, ok, err) ∧ St12 s n j A' := by
  obtain ⟨A', q, ok, err, e, n', l', m'⟩ := putA_others h.nk 0 p hv
  have hne : keyOf (baseP s) ≠ keyOf p := fun e => other_ne w s (by rw [← hk, e])
  refine ⟨A', q, ok, err, e, n', fun x hx => ?_, fun hle => by rw [l' _ hne]; exact h.small hle, fun hle hj now => by rw [l' _ hne]; exact h.good hle hj now⟩
  rcases m' x hx with r | r
  · exact h.keys x r
  · rw [r, hk]
    unfold keys12
    exact List.mem_cons_of_mem _ (List.mem_map.2 ⟨w, List.mem_range.2 hw, rfl⟩)
theorem st12_put {s : ByteArray} {n j : Nat} {A : List (Ky × Hf)} (h500 : s.size ≤ 500) (h8 : n % 8 = 0) (hn : 0 < n) (h : St12 s n j A) {P : Pk} (hP : (partsL s n)[j]? = some P) :
    ∃ A' q ok, putA A 0 P = (A', q, ok, 0) ∧ St12 s n (j + 1) A' ∧ (ok = true ↔ j + 1 = (partsL s n).length) ∧ (ok = true → q = baseP s) := by
  have hjl := (List.getElem?_eq_some_iff.1 hP).1
  by_cases hle : s.size ≤ n
  · have e1 : partsL s n = [baseP s] := by unfold partsL; rw [if_pos hle]
    rw [e1] at hP hjl
    have hj0 : j = 0 := by simpa using hjl
    subst hj0
    obtain rfl : baseP s = P := by simpa using hP
    refine ⟨A, baseP s, true, ?_, ⟨h.nk, h.keys, h.small, fun q => absurd hle q⟩, by simp [e1], fun _ => rfl⟩
    unfold putA
    rw [if_neg (by rw [base_valid s h500]; simp), if_pos ⟨rfl, rfl⟩]
  · obtain ⟨hj, rfl⟩ := partsL_at hle hP
    have hcut := base_cut h500 hn (by omega)
    have hcl : (partsL s n).length = count (baseP s) n := by unfold partsL; rw [if_neg hle, frags_length]
    rw [hcl]
    obtain ⟨A', n', l', z', m', hres⟩ := put_good hcut h.nk (now := 0) (h.good hle (by omega) 0) hj (piece_valid (base_valid s h500) rfl n j h8 hn ((count_lt (baseP s) n j hn).1 hj))
    have hkeys : ∀ x ∈ A', x.1 ∈ keys12 := fun x hx => (m' x hx).elim (h.keys x) (fun e => by rw [e]; exact List.mem_cons_self ..)
    rcases hres with ⟨hall, hput, hl⟩ | ⟨⟨i, hi, hci, hik⟩, hput, H, hl, hgH⟩
    · have hjm : j + 1 = count (baseP s) n := by
        rcases hall (count (baseP s) n - 1) (by omega) with q | q
        · have := of_decide_eq_true q; omega
        · omega
      exact ⟨A', _, true, hput, ⟨n', hkeys, fun q => absurd q hle, fun _ q => by omega⟩, by simp [hjm], fun _ => rfl⟩
    · have hci := of_decide_eq_false hci
      refine ⟨A', _, false, hput, ⟨n', hkeys, fun q => absurd q hle, fun _ q now => ?_⟩, by constructor <;> intro q; (cases q); omega, fun q => by cases q⟩
      rw [hl]
      refine good_congr hgH hn (by omega) (fun i hi => ?_)
      rw [Bool.eq_iff_iff]
      simp only [Bool.or_eq_true, decide_eq_true_eq]
      omega
theorem partOf_key (wh of lo : Nat) (mo : Bool) (od : Nat) : keyOf (partOf wh of lo mo od) = otherK wh := rfl
end Go.Proofs.Ytmeldgnjgogacaa.Re
