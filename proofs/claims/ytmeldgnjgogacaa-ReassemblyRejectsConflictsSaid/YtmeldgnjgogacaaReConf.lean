/-
  Plain law of reassembly: the parts of a datagram in order; a fragment that conflicts. No program in sight.
-/
import Derived.Test.YtmeldgnjgogacaaReAny
namespace Go.Proofs.Ytmeldgnjgogacaa.Re
set_option maxRecDepth 100000
open Go.RowKit Go.Proofs.Ytmeldgnjgogacaa.Wire
open Go.Proofs.Ytmeldgnjgogacaa.Ip (Pk vlenB VLen pieceAt count frags count_lt frags_succ frags_length)

theorem one_of {A : List (Ky × Hf)} {k : Ky} {H : Hf} (hn : NK A) (hk : ∀ x ∈ A, x.1 = k) (hl : look A k = some H) : A = [(k, H)] := by
  have h1 := nk_one hn hk
  match A, h1, hk, hl with
  | x :: y :: A, h1, _, _ => simp at h1
  | [], _, _, hl => cases hl
  | [x], _, hk, hl =>
    have e := hk x (by simp)
    rw [look_cons, if_pos e.symm] at hl
    have e2 := Option.some.inj hl
    rw [← e, ← e2]
theorem look_one (k : Ky) (H : Hf) : look [(k, H)] k = some H := by rw [look_cons, if_pos rfl]
/-- the first j parts have come, the first at st -/
def StI (b : ByteArray) (n j : Nat) (st : Int) (A : List (Ky × Hf)) : Prop :=
  ((j = 0 ∨ j = count (baseP b) n) → A = []) ∧ (0 < j → j < count (baseP b) n → ∃ H, A = [(keyOf (baseP b), H)] ∧ H.start = st ∧ Good (baseP b) n (fun i => decide (i < j)) H)
theorem sti_start (b : ByteArray) (n : Nat) (st : Int) : StI b n 0 st [] := ⟨fun _ => rfl, fun h => absurd h (Nat.lt_irrefl _)⟩
theorem sti_length {b : ByteArray} {n j : Nat} {st : Int} {A : List (Ky × Hf)} (h : StI b n j st A) (hj : j ≤ count (baseP b) n) : A.length ≤ 1 := by
  by_cases h0 : j = 0 ∨ j = count (baseP b) n
  · rw [h.1 h0]; simp
  · obtain ⟨H, e, -⟩ := h.2 (by omega) (by omega)
    rw [e]; simp
theorem sti_put {b : ByteArray} {n j : Nat} {st : Int} {A : List (Ky × Hf)} (h500 : b.size ≤ 500) (h8 : n % 8 = 0) (hc : CutP (baseP b) n) (h : StI b n j st A) (hj : j < count (baseP b) n) :
    ∃ A' q ok, putA A st (pieceAt (baseP b) n j) = (A', q, ok, 0) ∧ StI b n (j + 1) st A' ∧ (ok = true ↔ j + 1 = count (baseP b) n) ∧ (ok = true → q = baseP b) := by
  have hn := hc.n0
  have hm := hc.m2
  have hA : NK A ∧ (∀ x ∈ A, x.1 = keyOf (baseP b)) ∧ (∀ x ∈ A, x.2.start = st) ∧ Good (baseP b) n (fun i => decide (i < j)) ((look A (keyOf (baseP b))).getD (newF st)) := by
    by_cases h0 : j = 0
    · rw [h.1 (.inl h0), look_nil]
      refine ⟨List.nodup_nil, fun x hx => by simp at hx, fun x hx => by simp at hx, good_congr (C := fun _ => false) (good_new st) hn (by omega) (fun i hi => decide_eq_false (by omega))⟩
    · obtain ⟨H, e, hs, hg⟩ := h.2 (by omega) hj
      rw [e, look_one]
      exact ⟨by unfold NK; simp, fun x hx => by simp at hx; rw [hx], fun x hx => by simp at hx; rw [hx]; exact hs, hg⟩
  obtain ⟨h1, h2, h3, hg⟩ := hA
  obtain ⟨A', n', l', z', m', hres⟩ := put_good hc h1 (now := st) hg hj (piece_valid (base_valid b h500) rfl n j h8 hn ((count_lt (baseP b) n j hn).1 hj))
  have hmem : ∀ x ∈ A', x.1 = keyOf (baseP b) := fun x hx => (m' x hx).elim (h2 x) id
  have hst := putA_start A st (pieceAt (baseP b) n j)
  rcases hres with ⟨hall, hput, hl⟩ | ⟨⟨i, hi, hci, hik⟩, hput, H, hl, hgH⟩
  · have hA' : A' = [] := by
      cases A' with
      | nil => rfl
      | cons x A' => exact absurd (hmem x (by simp)) (lk_none.1 hl x (by simp))
    subst hA'
    have hjm : j + 1 = count (baseP b) n := by
      rcases hall (count (baseP b) n - 1) (by omega) with q | q
      · have := of_decide_eq_true q; omega
      · omega
    exact ⟨[], _, true, hput, ⟨fun _ => rfl, fun _ q => by omega⟩, by simp [hjm], fun _ => rfl⟩
  · have hci := of_decide_eq_false hci
    have e := one_of n' hmem hl
    refine ⟨A', _, false, hput, ⟨fun q => by omega, fun _ _ => ⟨H, e, ?_, good_congr hgH hn (by omega) (fun i hi => ?_)⟩⟩, by constructor <;> intro q; (cases q); omega, fun q => by cases q⟩
    · rw [hput] at hst
      have := hst (keyOf (baseP b), H) (by rw [e]; simp)
      rcases this with q | ⟨y, hy, q⟩
      · exact q
      · exact q.trans (h3 y hy)
    · rw [Bool.eq_iff_iff]
      simp only [Bool.or_eq_true, decide_eq_true_eq]
      omega
theorem putA_confl {H : Hf} {k : Ky} {p : Pk} (now : Int) (hk : keyOf p = k) (hv : vldB p = true) (hf : p.mf = true ∨ p.off ≠ 0) (hr : H.rej = false) (hc : conflB H p = true) : putA [(k, H)] now p = ([(k, rejF H)], pk0, false, 70) := by
  subst hk
  have e1 : hasK [(keyOf p, H)] (keyOf p) = some 0 := by unfold hasK; simp
  unfold putA
  rw [if_neg (by rw [hv]; simp), if_neg (by rintro ⟨a, b⟩; rcases hf with q | q; (rw [a] at q; cases q); exact q b), e1]
  dsimp only
  show putH _ 0 _ H p = _
  unfold putH
  rw [if_neg (by rw [hr]; simp), if_pos hc]; rfl
theorem putA_rej {H : Hf} {k : Ky} {p : Pk} (now : Int) (hk : keyOf p = k) (hv : vldB p = true) (hf : p.mf = true ∨ p.off ≠ 0) (hr : H.rej = true) : putA [(k, H)] now p = ([(k, H)], pk0, false, 70) := by
  subst hk
  have e1 : hasK [(keyOf p, H)] (keyOf p) = some 0 := by unfold hasK; simp
  unfold putA
  rw [if_neg (by rw [hv]; simp), if_neg (by rintro ⟨a, b⟩; rcases hf with q | q; (rw [a] at q; cases q); exact q b), e1]
  dsimp only
  show putH _ 0 _ H p = _
  unfold putH
  rw [if_pos hr]
/-- a fragment with another first byte -/
def badP (q : Pk) : Pk := { q with s := ⟨((q.s.data.toList.getD 0 0 + 1) :: q.s.data.toList.tail).toArray⟩ }
theorem badP_size {q : Pk} (h : 0 < q.s.size) : (badP q).s.size = q.s.size := by
  unfold badP
  have h1 : q.s.data.toList.length = q.s.size := rfl
  show ((q.s.data.toList.getD 0 0 + 1) :: q.s.data.toList.tail).length = _
  rw [List.length_cons, List.length_tail]; omega
theorem byte_succ (b : UInt8) : b + 1 ≠ b := by
  intro h
  have := congrArg UInt8.toNat h
  rw [UInt8.toNat_add] at this
  have h2 := b.toNat_lt
  simp at this
  omega
theorem bad_confl {p : Pk} {n : Nat} {C : Nat → Bool} {H : Hf} (h : CutP p n) (g : Good p n C H) {k : Nat} (hk : k < count p n) (hC : C k = true) : conflB H (badP (pieceAt p n k)) = true := by
  have h1 := (count_lt p n k h.n0).1 hk
  have hn := h.n0
  have hof : (badP (pieceAt p n k)).off = ((n * k : Nat) : Int) := piece_off h k
  have hsz := piece_sz (p := p) (n := n) k
  have hbs := badP_size (q := pieceAt p n k) (by rw [hsz]; omega)
  have hlen : n * k < H.by_.length := by
    rcases Nat.lt_or_ge (n * k) H.by_.length with q | q
    · exact q
    · have := g.top _ q h1
      rw [Nat.mul_div_cancel_left k hn, hC] at this
      cases this
  have e1 := g.hv _ hlen
  have e2 := g.by_ _ hlen (by rw [Nat.mul_div_cancel_left k hn]; exact hC)
  rw [Nat.mul_div_cancel_left k hn, hC] at e1
  have hd : diffAny H (badP (pieceAt p n k)) (badP (pieceAt p n k)).s.size = true := by
    refine diffAny_true (k := 0) (by rw [hbs, hsz]; omega) ?_
    unfold differsB
    rw [hof]
    have et : ((n * k : Nat) : Int).toNat = n * k := Int.toNat_natCast _
    rw [et, Nat.add_zero, Nat.sub_self]
    have eb : (badP (pieceAt p n k)).s.data.toList.getD 0 0 = p.s.data.toList.getD (n * k) 0 + 1 := by
      have := piece_byte (p := p) (n := n) k 0 (by omega)
      rw [Nat.add_zero] at this
      rw [← this]; rfl
    rw [eb, List.getD_eq_getElem?_getD, e1, List.getD_eq_getElem?_getD, e2, List.getD_eq_getElem?_getD]
    have hgl : p.s.data.toList[n * k]? = some (p.s.data.toList.getD (n * k) 0) := by
      have hl : n * k < p.s.data.toList.length := h1
      rw [List.getD_eq_getElem?_getD, List.getElem?_eq_getElem hl]; rfl
    rw [hgl]
    simp only [Option.getD_some, Bool.true_and, bne_iff_ne]
    exact fun q => byte_succ _ q.symm
  unfold conflB
  rw [hd]; rfl
/-- a last fragment that ends ahead of what has come -/
theorem end_confl {p : Pk} {n : Nat} {C : Nat → Bool} {H : Hf} (g : Good p n C H) {q : Pk} (hm : q.mf = false) {j : Nat} (hj : j < p.s.size) (hC : C (j / n) = true) (hq : q.off + q.s.size ≤ (j : Int)) : conflB H q = true := by
  have hlen : j < H.by_.length := by
    rcases Nat.lt_or_ge j H.by_.length with r | r
    · exact r
    · have := g.top _ r hj
      rw [hC] at this
      cases this
  unfold conflB
  rw [hm]
  have : decide (q.off + (q.s.size : Int) < (H.by_.length : Int)) = true := decide_eq_true (by omega)
  rw [this]
  simp
theorem badP_valid {q : Pk} (h : vldB q = true) (h0 : 0 < q.s.size) : vldB (badP q) = true := by
  unfold vldB at h ⊢
  rw [badP_size h0]
  exact h
/-- the fragment with another end -/
def endP (u : ByteArray) : Pk := { f := 1, t := 2, pr := 6, ttl := 9, id := 77, df := false, mf := false, off := 8, s := u }
theorem endP_valid (u : ByteArray) (h : u.size = 1) : vldB (endP u) = true := by
  unfold vldB vlenB endP
  dsimp only
  rw [h]
  refine decide_eq_true ⟨⟨?_, ?_, ?_, ?_⟩, ⟨?_, ?_, ?_, ?_, ?_, ?_⟩, ⟨?_, ?_, ?_, ?_⟩, ?_, ?_, ?_⟩
  all_goals first | omega | (intro h; cases h; done) | (intro h; omega)
end Go.Proofs.Ytmeldgnjgogacaa.Re
