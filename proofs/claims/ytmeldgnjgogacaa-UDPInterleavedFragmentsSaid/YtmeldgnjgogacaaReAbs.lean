/-
  The table as plain data: what Put and Tick make of it. The table in memory reads as plain data. The contract of find in one form.
-/
import Derived.Test.YtmeldgnjgogacaaReFind2
namespace Go.Proofs.Ytmeldgnjgogacaa.Re
set_option maxRecDepth 100000
open Go.RowKit Go.Proofs.Ytmeldgnjgogacaa.Wire
open Go.Proofs.Ytmeldgnjgogacaa.Ip (Pk vlenB)

def keyOf (p : Pk) : Ky := ⟨p.f, p.t, p.pr, p.id⟩
def vldB (p : Pk) : Bool := vlenB p.f p.t p.pr p.ttl p.id p.df p.mf p.off p.s.size
/-- the datagram that is complete -/
def outF (p : Pk) (H : Hf) : Pk := { f := p.f, t := p.t, pr := p.pr, ttl := H.first.ttl, id := p.id, df := false, mf := false, off := 0, s := ⟨H.by_.toArray⟩ }
/-- Put at an entry -/
def putH (A : List (Ky × Hf)) (i : Nat) (k : Ky) (H : Hf) (p : Pk) : List (Ky × Hf) × Pk × Bool × Int :=
  if H.rej = true then (A, pk0, false, 70)
  else if conflB H p = true then (A.set i (k, rejF H), pk0, false, 70)
  else if wholeB (storeF H p) = true then (A.eraseIdx i, outF p (storeF H p), true, 0)
  else (A.set i (k, storeF H p), pk0, false, 0)
def hasK (A : List (Ky × Hf)) (k : Ky) : Option Nat := (A.map (·.1)).findIdx? (fun x => decide (k = x))
def putA (A : List (Ky × Hf)) (now : Int) (p : Pk) : List (Ky × Hf) × Pk × Bool × Int :=
  if vldB p = false then (A, pk0, false, 60)
  else if p.mf = false ∧ p.off = 0 then (A, p, true, 0)
  else match hasK A (keyOf p) with
    | some i => putH A i (keyOf p) ((A[i]?.map (·.2)).getD (newF now)) p
    | none => putH (A ++ [(keyOf p, newF now)]) A.length (keyOf p) (newF now) p
/-- what every incomplete datagram meets -/
structure HInv (H : Hf) : Prop where
  len : H.hv.length = H.by_.length
  le : H.by_.length ≤ 4000
  cnt : H.cnt = ((H.hv.count true : Nat) : Int)
  en : 0 ≤ H.en ∧ H.en ≤ 4000
theorem HInv.cntB {H : Hf} (h : HInv H) : 0 ≤ H.cnt ∧ H.cnt ≤ 4000 := by
  have := List.count_le_length (a := true) (l := H.hv)
  have h1 := h.cnt; have h2 := h.len; have h3 := h.le
  omega
theorem hinv_new (now : Int) : HInv (newF now) := ⟨rfl, Nat.zero_le _, rfl, ⟨Int.le_refl _, by show (0 : Int) ≤ 4000; omega⟩⟩
theorem hinv_rej (H : Hf) : HInv (rejF H) := ⟨rfl, Nat.zero_le _, rfl, ⟨Int.le_refl _, by show (0 : Int) ≤ 4000; omega⟩⟩
theorem count_set : ∀ (l : List Bool) (j : Nat), l[j]? = some false → (l.set j true).count true = l.count true + 1
  | [], j, h => by simp at h
  | x :: l, 0, h => by simp at h; subst h; simp
  | x :: l, j + 1, h => by
    have := count_set l j (by simpa using h)
    simp only [List.set_cons_succ, List.count_cons, this]; omega
theorem hinv_lay {H : Hf} (h : HInv H) (j : Nat) (b : UInt8) (hj : j < H.by_.length) : HInv (laySet H j b) := by
  have e : H.hv[j]? = some (H.hv[j]'(by have := h.len; omega)) := List.getElem?_eq_getElem _
  cases hq : H.hv[j]'(by have := h.len; omega) with
  | true => rw [hq] at e; rw [laySet_there e]; exact h
  | false =>
    rw [hq] at e
    rw [laySet_new e]
    exact ⟨by simpa using h.len, by simpa using h.le, by show H.cnt + 1 = _; rw [count_set _ _ e, h.cnt]; omega, h.en⟩
theorem hinv_layN {H : Hf} (h : HInv H) (s : ByteArray) (o : Nat) : ∀ n, o + n ≤ H.by_.length → HInv (layN s o H n)
  | 0, _ => h
  | n + 1, hn => by
    have ih := hinv_layN h s o n (by omega)
    have := (layN_len s o H n).1
    exact hinv_lay ih _ _ (by omega)
theorem hinv_grow {H : Hf} (h : HInv H) (n : Nat) (hn : n ≤ 4000) : HInv (growF H n) := by
  have h1 := h.len; have h2 := h.le
  refine ⟨by simp [growF, h1], by simp [growF]; omega, ?_, h.en⟩
  show H.cnt = _
  rw [h.cnt]
  simp [growF, List.count_replicate]
theorem hinv_store {H : Hf} (h : HInv H) (p : Pk) (h0 : 0 ≤ p.off) (hm : p.off + p.s.size ≤ 4000) : HInv (storeF H p) := by
  obtain ⟨o, ho⟩ := Int.eq_ofNat_of_zero_le h0
  have e : p.off.toNat = o := by omega
  have h1 : HInv (layN p.s p.off.toNat (growF H (p.off.toNat + p.s.size)) p.s.size) := by
    refine hinv_layN (hinv_grow h _ (by omega)) _ _ _ ?_
    simp [growF]; omega
  have h2 : HInv (endF (layN p.s p.off.toNat (growF H (p.off.toNat + p.s.size)) p.s.size) p) := by
    unfold endF
    split
    · exact h1
    · exact ⟨h1.len, h1.le, h1.cnt, by show 0 ≤ p.off + p.s.size ∧ p.off + p.s.size ≤ 4000; omega⟩
  unfold storeF firstF
  split
  · exact ⟨h2.len, h2.le, h2.cnt, h2.en⟩
  · exact h2
def abs (L : List En) : List (Ky × Hf) := L.map fun e => (e.k, e.H)
theorem abs_keys (L : List En) : (abs L).map (·.1) = L.map (·.k) := by simp [abs]
theorem abs_get {L : List En} {i : Nat} {e : En} (h : L[i]? = some e) : (abs L)[i]? = some (e.k, e.H) := by simp [abs, h]
/-- find: the entry of the key, an old one or a new one -/
def FindPost (w : World) (T m : Nat) (O : Option Addr) (L : List En) (k : Ky) (now : Int) (x : Ending) (w' : World) : Prop :=
  ∃ es clk O' oc L1 i e, x = .returned (.pointer (some ⟨e.hb, 0, none⟩)) ∧ Tab w' T m es clk O' oc L1 ∧ L1[i]? = some e ∧ e.k = k ∧
    (((∃ f, L[i]? = some f ∧ f.k = k ∧ e = f) ∧ L1 = L ∧ hasK (abs L) k = some i) ∨ (i = L.length ∧ hasK (abs L) k = none ∧ abs L1 = abs L ++ [(k, newF now)] ∧ e.H = newF now)) ∧
    Chg (TOwn T m O L) w w' ∧ ∀ q, TOwn T m O' L1 q → TOwn T m O L q ∨ w.heap.size ≤ q
theorem find_any (T m : Nat) (es : Array MapEntry) (clk : Nat) (O : Option Addr) (oc : Nat) (L : List En) (k : Ky) (now : Int) (w : World) (h : Tab w T m es clk O oc L) (hL : L.length < 8 ∨ k ∈ L.map (·.k)) :
    Calls Try.prog 34 #[.pointer (some ⟨T, 0, none⟩), .agg #[.int .i64 k.f, .int .i64 k.t, .int .i64 k.p, .int .i64 k.i], .int .i64 now] w (FindPost w T m O L k now) := by
  by_cases hk : k ∈ L.map (·.k)
  · obtain ⟨i, hi⟩ := List.getElem?_of_mem hk
    rw [List.getElem?_map] at hi
    obtain ⟨e, he, hek⟩ : ∃ e, L[i]? = some e ∧ e.k = k := by
      cases hq : L[i]? with
      | none => rw [hq] at hi; cases hi
      | some e => rw [hq] at hi; exact ⟨e, rfl, by simpa using hi⟩
    subst hek
    refine (find_there T m es clk O oc L i e he now w h).mono ?_
    rintro x w' ⟨rfl, hb⟩
    refine ⟨es, clk, O, oc, L, i, e, rfl, h.below hb, he, rfl, .inl ⟨⟨e, he, rfl, rfl⟩, rfl, ?_⟩, Chg.of_below hb, fun q hq => .inl hq⟩
    unfold hasK
    rw [abs_keys]
    exact at_some h.nod (by simp [he])
  · have hL' : L.length < 8 := hL.resolve_right hk
    refine (find_new T m es clk O oc L k hk now w h hL').mono ?_
    rintro x w' ⟨es', clk', g, c, rfl, ht, hc, ha⟩
    refine ⟨es', clk', _, c, _, L.length, _, rfl, ht, by rw [List.getElem?_append_right (Nat.le_refl _), Nat.sub_self]; rfl, rfl, .inr ⟨rfl, ?_, by simp [abs, newE], rfl⟩, hc.mono ?_, ?_⟩
    · unfold hasK
      rw [abs_keys]
      exact at_none hk
    · rintro q (q1 | q1 | q1)
      · exact .inl q1
      · exact .inr (.inl q1)
      · exact .inr (.inr (.inl q1))
    · rintro q (q1 | q1 | ⟨a, e, q1⟩ | ⟨f, hf, q1⟩)
      · exact .inl (.inl q1)
      · exact .inl (.inr (.inl q1))
      · cases e
        rcases ha with q2 | q2
        · cases O with
          | none => cases q2
          | some a => exact .inl (.inr (.inr (.inl ⟨a, rfl, by simp at q2; rw [q2]; exact q1⟩)))
        · exact .inr (by simp at q1; omega)
      · rcases List.mem_append.1 hf with hf | hf
        · exact .inl (.inr (.inr (.inr ⟨f, hf, q1⟩)))
        · simp at hf; subst hf
          have := newE_own q1
          exact .inr (by omega)
end Go.Proofs.Ytmeldgnjgogacaa.Re
