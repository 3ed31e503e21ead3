/-
  Several tables on one link: the plain law, the frames, the tables in memory (several texts in one).
-/
import Derived.Test.YtmgjcjacoegocaaDoorArMany
import Derived.Test.YtmgjcjacoegocaaDoorArL54p
import Derived.Test.YtmgjcjacoegocaaDoorSRows
import Derived.Test.YtmgjcjacoegocaaDoorLkM
import Derived.IntWalk
namespace Go.Proofs.YtmgjcjacoegocaaDoor.Ar
set_option maxRecDepth 100000
open Go.RowKit Go.Proofs.YtmgjcjacoegocaaDoor.Wire

/-- a message and the number of its sender -/
abbrev Ms := Nat × Am
def askM (k i : Nat) : Ms := (k, ⟨1, 10 + (k : Int), 1 + (k : Int), 10 + (i : Int), 0⟩)
def toldM (k j : Nat) : Ms := (k, ⟨2, 10 + (k : Int), 1 + (k : Int), 10 + (j : Int), 1 + (j : Int)⟩)
def MsOk (n : Nat) (m : Ms) : Prop := ∃ k i, k < n ∧ k ≠ i ∧ ((i ≤ n ∧ m = askM k i) ∨ (i < n ∧ m = toldM k i))
/-- does the interface k accept the frame of a message -/
def hears (m : Ms) (k : Nat) : Bool := decide (((if m.2.op = 1 then 65535 else m.2.tm) = 1 + (k : Int) ∨ (if m.2.op = 1 then 65535 else m.2.tm) = 65535) ∧ 1 + (m.1 : Int) ≠ 1 + (k : Int))
theorem ask_inj {a b c d : Nat} (h : askM a b = askM c d) : a = c ∧ b = d := by
  unfold askM at h
  simp only [Prod.mk.injEq, Am.mk.injEq] at h
  omega
theorem told_inj {a b c d : Nat} (h : toldM a b = toldM c d) : a = c ∧ b = d := by
  unfold toldM at h
  simp only [Prod.mk.injEq, Am.mk.injEq] at h
  omega
theorem ask_told {a b c d : Nat} (h : askM a b = toldM c d) : False := by
  unfold askM toldM at h
  simp only [Prod.mk.injEq, Am.mk.injEq] at h
  omega
theorem hears_ask {n k i j : Nat} (_ : n ≤ 4) (_ : j < n) : hears (askM k i) j = decide (k ≠ j) := by
  unfold hears askM
  rw [decide_eq_decide]
  simp
  omega
theorem hears_told {n k i j : Nat} (hn : n ≤ 4) (hi : i < n) (_ : j < n) (hk : k ≠ i) : hears (toldM k i) j = decide (i = j) := by
  unfold hears toldM
  rw [decide_eq_decide]
  simp
  omega
theorem msOk_ok {n : Nat} {m : Ms} (hn : n ≤ 4) (h : MsOk n m) : m.2.ok ∧ m.1 < n ∧ m.2.f = 10 + (m.1 : Int) ∧ m.2.fm = 1 + (m.1 : Int) := by
  obtain ⟨k, i, hk, hne, ⟨hi, rfl⟩ | ⟨hi, rfl⟩⟩ := h
  · unfold Am.ok askM; dsimp only; omega
  · unfold Am.ok toldM; dsimp only; omega
/-- what one entry of the table k keeps -/
def EntV (n i : Nat) (W : Int → Prop) (tl : Int) : Ev → Prop
  | .res mac _ _ => i < n ∧ mac = 1 + (i : Int)
  | .inc _ sent _ last => (i < n → last ≤ 19 ∧ W last) ∧ (i = n → last + 10 * (4 - sent) ≤ 49 ∧ tl < last + 10)
def EntI (n k : Nat) (W : Nat → Int → Prop) (tl : Int) (x : Int × Ev) : Prop := ∃ i, i ≤ n ∧ i ≠ k ∧ x.1 = 10 + (i : Int) ∧ EntV n i (W i) tl x.2
theorem EntI.mono {n k : Nat} {W W' : Nat → Int → Prop} {tl : Int} {x : Int × Ev} (h : EntI n k W tl x) (hw : ∀ i last, i < n → (∃ a b d, x = (10 + (i : Int), .inc a b d last)) → W i last → W' i last) : EntI n k W' tl x := by
  obtain ⟨i, h1, h2, h3, h4⟩ := h
  refine ⟨i, h1, h2, h3, ?_⟩
  obtain ⟨a, v⟩ := x
  dsimp only at h3; subst h3
  cases v with
  | res => exact h4
  | inc held sent first last => exact ⟨fun q => ⟨(h4.1 q).1, hw i last q ⟨_, _, _, rfl⟩ (h4.1 q).2⟩, h4.2⟩
structure TbI (n k : Nat) (W : Nat → Int → Prop) (tl now : Int) (c : Tc) (A : AL) : Prop where
  c : c = ⟨10 + (k : Int), 1 + (k : Int), false, 0⟩
  inv : Inv A now
  ent : ∀ x ∈ A, EntI n k W tl x
theorem len_le : ∀ (n : Nat) (l : List Int) (a : Int), l.Nodup → (∀ x ∈ l, a ≤ x ∧ x < a + n) → l.length ≤ n
  | 0, l, a, _, h => by
    cases l with
    | nil => simp
    | cons x l => have := h x (List.mem_cons_self ..); omega
  | n + 1, l, a, hn, h => by
    by_cases hm : a + n ∈ l
    · have h1 := len_le n (l.erase (a + n)) a (hn.erase _) (fun x hx => by
        have h2 := (List.Nodup.mem_erase_iff hn).1 hx
        have := h x h2.2
        omega)
      rw [List.length_erase_of_mem hm] at h1
      omega
    · have := len_le n l a hn (fun x hx => by
        have h2 := h x hx
        have h3 : x ≠ a + n := fun e => hm (e ▸ hx)
        omega)
      omega
theorem TbI.few {n k : Nat} {W : Nat → Int → Prop} {tl now : Int} {c : Tc} {A : AL} (h : TbI n k W tl now c A) (hn : n ≤ 4) : A.length ≤ 5 := by
  have := len_le 5 (A.map (·.1)) 10 h.inv.nod (fun x hx => by
    obtain ⟨y, hy, rfl⟩ := List.mem_map.1 hx
    obtain ⟨i, h1, h2, h3, h4⟩ := h.ent y hy
    omega)
  rw [List.length_map] at this; exact this
/-- an entry after one has been set -/
theorem mem_upd' {A : AL} {k : Int} {v : Ev} {x : Int × Ev} (h : x ∈ upd A k v) : x = (k, v) ∨ (x ∈ A ∧ x.1 ≠ k) := by
  unfold upd at h
  obtain ⟨y, hy, rfl⟩ := List.mem_map.1 h
  split
  · exact .inl rfl
  · rename_i q; exact .inr ⟨hy, q⟩
theorem sum_cons (x : Int × Ev) (A : AL) : sumA (x :: A) = x.2.n + sumA A := rfl
theorem sum_app (A B : AL) : sumA (A ++ B) = sumA A + sumA B := by
  induction A with
  | nil => simp [sumA]
  | cons x A ih => rw [List.cons_append, sum_cons, sum_cons, ih]; omega
theorem upd_none : ∀ {A : AL} {k : Int} {v : Ev}, k ∉ A.map (·.1) → upd A k v = A
  | [], _, _, _ => rfl
  | x :: A, k, v, h => by
    rw [List.map_cons, List.mem_cons] at h
    have ih := upd_none (A := A) (v := v) (fun q => h (.inr q))
    unfold upd at ih ⊢
    rw [List.map_cons, ih, if_neg (fun q => h (.inl q.symm))]
theorem sum_upd : ∀ {A : AL} {k : Int} {v v' : Ev}, (A.map (·.1)).Nodup → look A k = some v → sumA (upd A k v') + v.n = sumA A + v'.n
  | [], _, _, _, _, h => by cases h
  | x :: A, k, v, v', hn, h => by
    rw [List.map_cons, List.nodup_cons] at hn
    by_cases q : x.1 = k
    · have h1 := look_of_mem (A := x :: A) (k := x.1) (v := x.2) (by rw [List.map_cons, List.nodup_cons]; exact hn) (by simp)
      rw [q, h] at h1
      have h2 : v = x.2 := Option.some.inj h1
      have e : upd (x :: A) k v' = (k, v') :: A := by
        have := upd_none (A := A) (k := k) (v := v') (by rw [← q]; exact hn.1)
        unfold upd at this ⊢
        rw [List.map_cons, this, if_pos q]
      rw [e, sum_cons, sum_cons, h2]
      dsimp only
      omega
    · have h1 : look A k = some v := by
        unfold look at h ⊢
        rw [List.find?_cons, decide_eq_false q] at h
        exact h
      have ih := sum_upd (v' := v') hn.2 h1
      have e : upd (x :: A) k v' = x :: upd A k v' := by
        unfold upd
        rw [List.map_cons, if_neg q]
      rw [e, sum_cons, sum_cons]
      omega
/-- a message is heard: the entry of its sender is resolved if it was open -/
theorem recv_mem {c : Tc} {A : AL} {now : Int} {a : Am} (hn : (A.map (·.1)).Nodup) (hok : a.ok) (hf : a.f ≠ c.own) (ht : a.t = c.own) :
    (recvA c A now a).1 = c ∧ (recvA c A now a).2.2.1 = (if a.op = 1 then [⟨2, c.own, c.mac, a.f, a.fm⟩] else []) ∧
    (∀ p ∈ (recvA c A now a).2.2.2, p.to_ = a.f ∧ p.mac = a.fm ∧ a.f ∈ A.map (·.1)) ∧ sumA (recvA c A now a).2.1 + ((recvA c A now a).2.2.2.length : Int) = sumA A ∧
    (∀ x ∈ (recvA c A now a).2.1, (x ∈ A ∧ ∀ p q r s, x ≠ (a.f, .inc p q r s)) ∨ (x = (a.f, .res a.fm now now) ∧ a.f ∈ A.map (·.1))) := by
  unfold recvA
  rw [if_neg (by simpa using hok), if_neg hf, if_neg (by simpa using ht)]
  cases hl : look A a.f with
  | none =>
    refine ⟨rfl, rfl, fun p hp => by simp at hp, by simp, fun x hx => .inl ⟨hx, fun p q r s e => ?_⟩⟩
    have := look_of_mem hn (e ▸ hx)
    rw [hl] at this; cases this
  | some v =>
    cases v with
    | res mac since used =>
      refine ⟨rfl, rfl, fun p hp => by simp at hp, by simp, fun x hx => .inl ⟨hx, fun p q r s e => ?_⟩⟩
      have := look_of_mem hn (e ▸ hx)
      rw [hl] at this; cases this
    | inc held sent first last =>
      have hk := look_key hl
      refine ⟨rfl, rfl, fun p hp => ?_, ?_, fun x hx => ?_⟩
      · obtain ⟨s, -, rfl⟩ := List.mem_map.1 hp; exact ⟨rfl, rfl, hk⟩
      · have := sum_upd (v' := .res a.fm now now) hn hl
        have e1 : Ev.n (.inc held sent first last) = (held.length : Int) := rfl
        have e2 : Ev.n (.res a.fm now now) = 0 := rfl
        rw [e1, e2] at this
        rw [List.length_map]; dsimp only; omega
      · rcases mem_upd' hx with rfl | ⟨h1, h2⟩
        · exact .inr ⟨rfl, hk⟩
        · exact .inl ⟨h1, fun p q r s e => h2 (by rw [e])⟩
/-- a message for another one -/
theorem recv_other {c : Tc} {A : AL} {now : Int} {a : Am} (hok : a.ok) (hf : a.f ≠ c.own) (ht : a.t ≠ c.own) : recvA c A now a = (c, A, [], []) := by
  unfold recvA
  rw [if_neg (by simpa using hok), if_neg hf, if_pos ht]
/-- the message that the table k looks for is under way: in the frames U that each table has still to hear, or among the next N -/
def Way (U : Nat → List Ms) (N : List Ms) (now : Int) (k i : Nat) (last : Int) : Prop :=
  (askM k i ∈ U i ∧ now - 1 ≤ last) ∨ (toldM i k ∈ U k ∧ now - 2 ≤ last) ∨ (askM k i ∈ N ∧ now ≤ last) ∨ (toldM i k ∈ N ∧ now - 1 ≤ last)
def tot (L : List Tb) : Int := (L.map fun t => sumA t.A).foldr (· + ·) 0
theorem tot_set : ∀ {L : List Tb} {k : Nat} {t t' : Tb}, L[k]? = some t → tot (L.set k t') = tot L - sumA t.A + sumA t'.A
  | [], k, t, t', h => by simp at h
  | x :: L, 0, t, t', h => by
    simp at h; subst h
    rw [List.set_cons_zero]
    unfold tot
    simp only [List.map_cons, List.foldr_cons]; omega
  | x :: L, k + 1, t, t', h => by
    have := tot_set (t' := t') (show L[k]? = some t by simpa using h)
    rw [List.set_cons_succ]
    unfold tot at *
    simp only [List.map_cons, List.foldr_cons]; omega
theorem tot_nn : ∀ {L : List Tb}, (∀ t ∈ L, 0 ≤ sumA t.A) → 0 ≤ tot L
  | [], _ => Int.le_refl _
  | x :: L, h => by
    have h1 := tot_nn (L := L) (fun t ht => h t (List.mem_cons_of_mem _ ht))
    have h2 := h x (List.mem_cons_self ..)
    unfold tot at *
    simp only [List.map_cons, List.foldr_cons]; omega
structure Sys (n : Nat) (U : Nat → List Ms) (N : List Ms) (now : Int) (tl : Nat → Int) (L : List Tb) : Prop where
  n2 : 2 ≤ n ∧ n ≤ 4
  now0 : 0 ≤ now
  len : L.length = n
  tab : ∀ k t, L[k]? = some t → TbI n k (Way U N now k) (tl k) now t.c t.A
  u : ∀ k, k < n → ∀ m ∈ U k, MsOk n m
  nx : ∀ m ∈ N, MsOk n m
section
variable {n : Nat} {U : Nat → List Ms} {N : List Ms} {now : Int} {tl : Nat → Int} {L : List Tb}
theorem Sys.lt (h : Sys n U N now tl L) {k : Nat} {t : Tb} (hk : L[k]? = some t) : k < n := by
  rw [← h.len]; exact (List.getElem?_eq_some_iff.1 hk).1
theorem Sys.nn (h : Sys n U N now tl L) : 0 ≤ tot L := tot_nn fun t ht => by
  obtain ⟨k, hk⟩ := List.getElem?_of_mem ht
  exact (h.tab k t hk).inv.sum.1
/-- the frame at hand goes past the interface k -/
theorem Sys.deaf (h : Sys n U N now tl L) {k : Nat} {m : Ms} {R : List Ms} (hk : k < n) (hU : U k = m :: R) (hm : hears m k = false) : Sys n (fun j => if j = k then R else U j) N now tl L := by
  have hmo := h.u k hk m (by rw [hU]; simp)
  have hno : ∀ a i, i = k → a < n → a ≠ i → askM a i = m → False := fun a i e ha hne e2 => by
    subst e; subst e2
    rw [hears_ask h.n2.2 hk] at hm
    have := of_decide_eq_false hm; omega
  have hno2 : ∀ a i, i = k → a < n → a ≠ i → toldM a i = m → False := fun a i e ha hne e2 => by
    subst e; subst e2
    rw [hears_told h.n2.2 hk hk hne] at hm
    have := of_decide_eq_false hm; omega
  refine ⟨h.n2, h.now0, h.len, fun j t hj => ?_, fun j hj x hx => ?_, h.nx⟩
  · have ht := h.tab j t hj
    have hjn := h.lt hj
    refine ⟨ht.c, ht.inv, fun x hx => ?_⟩
    obtain ⟨i0, -, hne, hx1, -⟩ := ht.ent x hx
    refine (ht.ent x hx).mono fun i last hi he hw => ?_
    obtain ⟨p1, p2, p3, rfl⟩ := he
    dsimp only at hx1
    have hii : i0 = i := by omega
    subst hii
    rcases hw with ⟨q, q2⟩ | ⟨q, q2⟩ | q | q
    · left; refine ⟨?_, q2⟩
      dsimp only
      by_cases e : i0 = k
      · rw [if_pos e]
        rw [e, hU] at q
        rcases List.mem_cons.1 q with r | r
        · exact (hno j k rfl hjn (by omega) r).elim
        · rw [e]; exact r
      · rw [if_neg e]; exact q
    · right; left; refine ⟨?_, q2⟩
      dsimp only
      by_cases e : j = k
      · rw [if_pos e]
        rw [e, hU] at q
        rcases List.mem_cons.1 q with r | r
        · exact (hno2 i0 k rfl (by omega) (by omega) r).elim
        · rw [e]; exact r
      · rw [if_neg e]; exact q
    · exact .inr (.inr (.inl q))
    · exact .inr (.inr (.inr q))
  · split at hx
    · exact h.u k hk x (by rw [hU]; exact List.mem_cons_of_mem _ hx)
    · exact h.u j hj x hx
/-- the interface k hears the frame at hand -/
theorem Sys.hear (h : Sys n U N now tl L) {k : Nat} {t : Tb} {m : Ms} {R : List Ms} (hk : L[k]? = some t) (hU : U k = m :: R) (hm : hears m k = true) :
    Sys n (fun j => if j = k then R else U j) (N ++ (recvA t.c t.A now m.2).2.2.1.map fun a => (k, a)) now tl (L.set k ⟨t.T, (recvA t.c t.A now m.2).1, (recvA t.c t.A now m.2).2.1⟩) ∧
    (recvA t.c t.A now m.2).2.2.1.length ≤ (if m.2.op = 1 ∧ m.2.t = 10 + (k : Int) then 1 else 0) ∧
    (∀ p ∈ (recvA t.c t.A now m.2).2.2.2, ∃ i : Nat, i < n ∧ p.to_ = 10 + (i : Int) ∧ p.mac = 1 + (i : Int)) ∧
    sumA (recvA t.c t.A now m.2).2.1 + ((recvA t.c t.A now m.2).2.2.2.length : Int) = sumA t.A := by
  have hkn := h.lt hk
  have hmo := h.u k hkn m (by rw [hU]; simp)
  have hn4 := h.n2.2
  obtain ⟨hok, hs, hf, hfm⟩ := msOk_ok hn4 hmo
  have ht := h.tab k t hk
  have hc := ht.c
  obtain ⟨T, c, A⟩ := t
  dsimp only at hc ht ⊢
  subst hc
  -- the sender is another one
  have hsk : m.1 ≠ k := by
    unfold hears at hm
    have := (of_decide_eq_true hm).2
    omega
  have hfne : m.2.f ≠ 10 + (k : Int) := by rw [hf]; omega
  have hu' : ∀ j, j < n → ∀ x ∈ (if j = k then R else U j), MsOk n x := fun j hj x hx => by
    split at hx
    · exact h.u k hkn x (by rw [hU]; exact List.mem_cons_of_mem _ hx)
    · exact h.u j hj x hx
  have hI := ht.inv.recv h.now0 ⟨10 + (k : Int), 1 + (k : Int), false, 0⟩ m.2
  by_cases hto : m.2.t = 10 + (k : Int)
  · obtain ⟨e1, e2, e3, e4, e5⟩ := recv_mem (c := ⟨10 + (k : Int), 1 + (k : Int), false, 0⟩) (now := now) ht.inv.nod hok hfne hto
    generalize recvA ⟨10 + (k : Int), 1 + (k : Int), false, 0⟩ A now m.2 = r at *
    obtain ⟨c', A', out, held⟩ := r
    dsimp only at e1 e2 e3 e4 e5 hI ⊢
    subst e1
    -- the answer
    have hout : out.map (fun a => ((k, a) : Ms)) = if m.2.op = 1 then [toldM k m.1] else [] := by
      rw [e2]
      split
      · unfold toldM; simp [hf, hfm]
      · rfl
    have hmk : m = askM m.1 k ∨ m = toldM m.1 k := by
      obtain ⟨a, b, ha, hab, ⟨hb, rfl⟩ | ⟨hb, rfl⟩⟩ := hmo
      · left; unfold askM at hto ⊢; dsimp only at hto ⊢; rw [show b = k by omega]
      · right; unfold toldM at hto ⊢; dsimp only at hto ⊢; rw [show b = k by omega]
    refine ⟨⟨h.n2, h.now0, by rw [List.length_set]; exact h.len, fun j tj hj => ?_, hu', fun x hx => ?_⟩, ?_, fun p hp => ?_, e4⟩
    · rw [List.getElem?_set] at hj
      by_cases ejk : k = j
      · subst ejk
        rw [if_pos rfl, if_pos (by rw [h.len]; exact hkn)] at hj
        cases hj
        refine ⟨rfl, hI, fun x hx => ?_⟩
        dsimp only at hx
        rcases e5 x hx with ⟨hx1, hx2⟩ | ⟨rfl, hx2⟩
        · refine (ht.ent x hx1).mono fun i last hi he hw => ?_
          obtain ⟨p, q, r, rfl⟩ := he
          have hik : i ≠ m.1 := fun e => hx2 p q r last (by rw [hf, e])
          obtain ⟨i0, -, hne0, hx10, -⟩ := ht.ent _ hx1
          dsimp only at hx10
          have hik2 : i ≠ k := by omega
          rcases hw with ⟨q1, q2⟩ | ⟨q1, q2⟩ | ⟨q1, q2⟩ | ⟨q1, q2⟩
          · left; refine ⟨?_, q2⟩
            dsimp only; rw [if_neg hik2]; exact q1
          · right; left; refine ⟨?_, q2⟩
            dsimp only; rw [if_pos rfl]
            rw [hU] at q1
            rcases List.mem_cons.1 q1 with r1 | r1
            · exfalso; apply hik; rw [← r1]; rfl
            · exact r1
          · exact .inr (.inr (.inl ⟨List.mem_append_left _ q1, q2⟩))
          · exact .inr (.inr (.inr ⟨List.mem_append_left _ q1, q2⟩))
        · refine ⟨m.1, by omega, hsk, hf, ?_⟩
          exact ⟨hs, hfm⟩
      · rw [if_neg ejk] at hj
        have htj := h.tab j tj hj
        refine ⟨htj.c, htj.inv, fun x hx => (htj.ent x hx).mono fun i last hi he hw => ?_⟩
        rcases hw with ⟨q1, q2⟩ | ⟨q1, q2⟩ | ⟨q1, q2⟩ | ⟨q1, q2⟩
        · by_cases eik : i = k
          · subst eik
            rw [hU] at q1
            rcases List.mem_cons.1 q1 with r1 | r1
            · right; right; right
              refine ⟨List.mem_append_right _ ?_, q2⟩
              rw [hout, ← r1]
              rw [if_pos (show (askM j i).2.op = 1 from rfl)]
              exact List.mem_singleton.2 rfl
            · left; refine ⟨?_, q2⟩; dsimp only; rw [if_pos rfl]; exact r1
          · left; refine ⟨?_, q2⟩; dsimp only; rw [if_neg eik]; exact q1
        · right; left; refine ⟨?_, q2⟩; dsimp only; rw [if_neg (fun e => ejk e.symm)]; exact q1
        · exact .inr (.inr (.inl ⟨List.mem_append_left _ q1, q2⟩))
        · exact .inr (.inr (.inr ⟨List.mem_append_left _ q1, q2⟩))
    · rcases List.mem_append.1 hx with hx | hx
      · exact h.nx x hx
      · rw [hout] at hx
        split at hx
        · rw [List.mem_singleton] at hx
          exact ⟨k, m.1, hkn, fun e => hsk e.symm, .inr ⟨hs, hx⟩⟩
        · cases hx
    · have := congrArg List.length hout
      rw [List.length_map] at this
      rw [this]
      by_cases ho : m.2.op = 1
      · rw [if_pos ho, if_pos ⟨ho, hto⟩]; simp
      · rw [if_neg ho]; simp
    · obtain ⟨p1, p2, -⟩ := e3 p hp
      exact ⟨m.1, hs, by rw [p1, hf], by rw [p2, hfm]⟩
  · rw [recv_other hok hfne hto]
    dsimp only
    have hdf : Sys n (fun j => if j = k then R else U j) N now tl L := by
      refine ⟨h.n2, h.now0, h.len, fun j tj hj => ?_, hu', h.nx⟩
      have htj := h.tab j tj hj
      have hjn := h.lt hj
      refine ⟨htj.c, htj.inv, fun x hx => ?_⟩
      obtain ⟨i0, -, hne, hx1, -⟩ := htj.ent x hx
      refine (htj.ent x hx).mono fun i last hi he hw => ?_
      rcases hw with ⟨q1, q2⟩ | ⟨q1, q2⟩ | q | q
      · left; refine ⟨?_, q2⟩
        dsimp only
        by_cases e : i = k
        · rw [if_pos e]
          rw [e, hU] at q1
          rcases List.mem_cons.1 q1 with r | r
          · exact absurd (by rw [← r]; rfl) hto
          · rw [e]; exact r
        · rw [if_neg e]; exact q1
      · right; left; refine ⟨?_, q2⟩
        dsimp only
        by_cases e : j = k
        · rw [if_pos e]
          rw [e, hU] at q1
          rcases List.mem_cons.1 q1 with r | r
          · exact absurd (by rw [← r]; rfl) hto
          · rw [e]; exact r
        · rw [if_neg e]; exact q1
      · exact .inr (.inr (.inl q))
      · exact .inr (.inr (.inr q))
    refine ⟨?_, Nat.zero_le _, fun p hp => by simp at hp, by simp⟩
    have e : L.set k ⟨T, ⟨10 + (k : Int), 1 + (k : Int), false, 0⟩, A⟩ = L := by
      have hl : k < L.length := by rw [h.len]; exact hkn
      have hg := (List.getElem?_eq_some_iff.1 hk).2
      rw [← hg, List.set_getElem_self]
    rw [e, List.map_nil, List.append_nil]
    exact hdf
/-- the frames have been heard -/
theorem Sys.way (_ : Sys n U N now tl L) (hU : ∀ j, U j = []) {k i : Nat} {last : Int} (w : Way U N now k i last) : (askM k i ∈ N ∧ now ≤ last) ∨ (toldM i k ∈ N ∧ now - 1 ≤ last) := by
  rcases w with ⟨q, -⟩ | ⟨q, -⟩ | q | q
  · rw [hU] at q; cases q
  · rw [hU] at q; cases q
  · exact .inl q
  · exact .inr q
end
theorem ord_perm {A : AL} (hn : (A.map (·.1)).Nodup) : (ordA A).Perm A := by
  have h1 : (A.map (·.1)).filterMap (fun k => (look A k).map fun v => (k, v)) = A := by
    have : ∀ l : AL, (∀ x ∈ l, x ∈ A) → (l.map (·.1)).filterMap (fun k => (look A k).map fun v => (k, v)) = l := by
      intro l
      induction l with
      | nil => intro _; rfl
      | cons x l ih =>
        intro hl
        have hx : look A x.1 = some x.2 := look_of_mem hn (hl x (List.mem_cons_self ..))
        rw [List.map_cons, List.filterMap_cons, hx]
        show (x.1, x.2) :: _ = _
        rw [ih (fun y hy => hl y (List.mem_cons_of_mem _ hy))]
    exact this A (fun _ h => h)
  have h2 := ((List.mergeSort_perm (A.map (·.1)) leI).filterMap (fun k => (look A k).map fun v => (k, v)))
  rw [h1] at h2
  exact h2
theorem flat_perm {α β : Type} {l l' : List α} (f : α → List β) (h : l.Perm l') : (l.flatMap f).length = (l'.flatMap f).length := by
  rw [List.length_flatMap, List.length_flatMap]
  exact (h.map _).sum_nat
theorem flat_one {β : Type} (f : Int × Ev → List β) (K : Int) : ∀ (A : AL), (A.map (·.1)).Nodup → (∀ x ∈ A, (f x).length ≤ 1 ∧ (x.1 ≠ K → f x = [])) → (A.flatMap f).length ≤ 1
  | [], _, _ => Nat.zero_le _
  | x :: A, hn, h => by
    rw [List.map_cons, List.nodup_cons] at hn
    obtain ⟨h1, h2⟩ := h x (List.mem_cons_self ..)
    rw [List.flatMap_cons, List.length_append]
    by_cases e : x.1 = K
    · have : A.flatMap f = [] := by
        rw [List.flatMap_eq_nil_iff]
        intro y hy
        exact (h y (List.mem_cons_of_mem _ hy)).2 (fun e2 => hn.1 (by rw [e, ← e2]; exact List.mem_map.2 ⟨y, hy, rfl⟩))
      rw [this]; simp; exact h1
    · rw [h2 e]
      have := flat_one f K A hn.2 (fun y hy => h y (List.mem_cons_of_mem _ hy))
      simpa using this
theorem tick_sum (now : Int) : ∀ (A : AL), sumA (A.filterMap (tick1 now)) + ((A.flatMap (tickH now)).length : Int) = sumA A
  | [] => by simp [sumA]
  | (k, v) :: A => by
    have ih := tick_sum now A
    rw [List.filterMap_cons, List.flatMap_cons, List.length_append, sum_cons]
    generalize A.filterMap (tick1 now) = F at *
    generalize (A.flatMap (tickH now)).length = z at *
    generalize sumA A = y at *
    have e2 : ∀ held a b c, Ev.n (.inc held a b c) = (held.length : Int) := fun _ _ _ _ => rfl
    have e3 : ∀ a b c, Ev.n (.res a b c) = 0 := fun _ _ _ => rfl
    cases v with
    | res mac since used =>
      unfold tick1 tickH
      dsimp only
      rw [e3, List.length_nil]
      by_cases h : agedB now since 600 = true
      · rw [if_pos h]; dsimp only; omega
      · rw [if_neg h]; dsimp only; rw [sum_cons]; dsimp only; rw [e3]; omega
    | inc held sent first last =>
      unfold tick1 tickH
      dsimp only
      rw [e2]
      by_cases h1 : agedB now last 10 = true
      · rw [if_pos h1]
        by_cases h2 : sent < 3
        · rw [if_pos h2, if_neg (fun q => q.2 h2)]
          dsimp only
          rw [sum_cons, List.length_nil]; dsimp only; rw [e2]; omega
        · rw [if_neg h2, if_pos ⟨h1, h2⟩, List.length_map]
          dsimp only
          omega
      · rw [if_neg h1, if_neg (fun q => h1 q.1)]
        dsimp only
        rw [sum_cons, List.length_nil]; dsimp only; rw [e2]; omega
section
variable {n : Nat} {U : Nat → List Ms} {N : List Ms} {now : Int} {tl : Nat → Int} {L : List Tb}
/-- the table k ticks -/
theorem Sys.tick (h : Sys n U N now tl L) (hU : ∀ j, U j = []) {k : Nat} {t : Tb} (hk : L[k]? = some t) (hl : tl k = now - 1) :
    Sys n U (N ++ (tickA t.c t.A now).2.1.map fun a => (k, a)) now (fun j => if j = k then now else tl j) (L.set k ⟨t.T, t.c, (tickA t.c t.A now).1⟩) ∧
    (tickA t.c t.A now).2.1.length ≤ 1 ∧ (∀ p ∈ (tickA t.c t.A now).2.2, p.mac = 0 ∧ p.to_ = 10 + (n : Int)) ∧
    sumA (tickA t.c t.A now).1 + ((tickA t.c t.A now).2.2.length : Int) = sumA t.A := by
  have hkn := h.lt hk
  have ht := h.tab k t hk
  have hc := ht.c
  obtain ⟨T, c, A⟩ := t
  dsimp only at hc ht ⊢
  have hI := ht.inv.tick h.now0 c
  have hper := ord_perm ht.inv.nod
  -- an open entry that is aged is that of the missing address
  have hag : ∀ a held sent first last, (a, Ev.inc held sent first last) ∈ A → agedB now last 10 = true → a = 10 + (n : Int) ∧ now = last + 10 ∧ last + 10 * (4 - sent) ≤ 49 := by
    intro a held sent first last hx hg
    rw [aged_iff] at hg
    obtain ⟨i, h1, h2, h3, h4⟩ := ht.ent _ hx
    dsimp only at h3
    by_cases hin : i < n
    · have := (h4.1 hin).2
      rcases h.way hU this with ⟨-, q⟩ | ⟨-, q⟩ <;> omega
    · have e : i = n := by omega
      have := h4.2 e
      rw [hl] at this
      subst e
      exact ⟨h3, by omega, this.1⟩
  have hM : ∀ x ∈ A, ∀ a ∈ tickM c now x, x.1 = 10 + (n : Int) ∧ a = req c (10 + (n : Int)) := by
    rintro ⟨a, v⟩ hx b hb
    cases v with
    | res => cases hb
    | inc held sent first last =>
      unfold tickM at hb
      dsimp only at hb
      split at hb
      · rename_i hg
        have := hag a held sent first last hx hg.1
        rw [List.mem_singleton] at hb
        rw [this.1] at hb
        exact ⟨this.1, hb⟩
      · cases hb
  have hM1 : ∀ x, (tickM c now x).length ≤ 1 := by
    rintro ⟨a, v⟩
    cases v with
    | res => exact Nat.zero_le _
    | inc held sent first last =>
      unfold tickM
      dsimp only
      split <;> simp
  refine ⟨⟨h.n2, h.now0, by rw [List.length_set]; exact h.len, fun j tj hj => ?_, h.u, fun x hx => ?_⟩, ?_, fun p hp => ?_, ?_⟩
  · rw [List.getElem?_set] at hj
    by_cases ejk : k = j
    · subst ejk
      rw [if_pos rfl, if_pos (by rw [h.len]; exact hkn)] at hj
      cases hj
      refine ⟨hc, hI, fun y hy => ?_⟩
      dsimp only at hy ⊢
      rw [if_pos rfl]
      obtain ⟨⟨a, v⟩, hx, ht1⟩ := tick_mem hy
      have hE := ht.ent _ hx
      have hEv := ht.inv.ev _ hx
      obtain ⟨i, h1, h2, h3, h4⟩ := hE
      dsimp only at h3 h4 hEv
      cases v with
      | res mac since used =>
        unfold tick1 at ht1
        dsimp only at ht1
        split at ht1
        · cases ht1
        · cases ht1
          exact ⟨i, h1, h2, h3, h4⟩
      | inc held sent first last =>
        unfold tick1 at ht1
        dsimp only at ht1
        unfold EvI at hEv
        by_cases hg : agedB now last 10 = true
        · obtain ⟨g1, g2, g3⟩ := hag _ _ _ _ _ hx hg
          rw [if_pos hg] at ht1
          have hin : i = n := by omega
          split at ht1
          · cases ht1
            exact ⟨i, h1, h2, h3, fun q => by omega, fun _ => ⟨by omega, by omega⟩⟩
          · cases ht1
        · rw [if_neg hg] at ht1
          cases ht1
          rw [aged_iff] at hg
          refine ⟨i, h1, h2, h3, fun q => ⟨(h4.1 q).1, ?_⟩, fun q => ⟨(h4.2 q).1, by omega⟩⟩
          rcases (h4.1 q).2 with q1 | q1 | ⟨q1, q2⟩ | ⟨q1, q2⟩
          · exact .inl q1
          · exact .inr (.inl q1)
          · exact .inr (.inr (.inl ⟨List.mem_append_left _ q1, q2⟩))
          · exact .inr (.inr (.inr ⟨List.mem_append_left _ q1, q2⟩))
    · rw [if_neg ejk] at hj
      have htj := h.tab j tj hj
      refine ⟨htj.c, htj.inv, fun x hx => ?_⟩
      rw [if_neg (fun e => ejk e.symm)]
      refine (htj.ent x hx).mono fun i last hi he hw => ?_
      rcases hw with q1 | q1 | ⟨q1, q2⟩ | ⟨q1, q2⟩
      · exact .inl q1
      · exact .inr (.inl q1)
      · exact .inr (.inr (.inl ⟨List.mem_append_left _ q1, q2⟩))
      · exact .inr (.inr (.inr ⟨List.mem_append_left _ q1, q2⟩))
  · rcases List.mem_append.1 hx with hx | hx
    · exact h.nx x hx
    · obtain ⟨a, ha, rfl⟩ := List.mem_map.1 hx
      unfold tickA at ha
      dsimp only at ha
      obtain ⟨y, hy, ha⟩ := List.mem_flatMap.1 ha
      obtain ⟨-, rfl⟩ := hM y (ord_mem hy) a ha
      refine ⟨k, n, hkn, by omega, .inl ⟨Nat.le_refl _, ?_⟩⟩
      rw [hc]; rfl
  · unfold tickA
    dsimp only
    rw [flat_perm _ hper]
    refine flat_one _ (10 + (n : Int)) A ht.inv.nod fun x hx => ⟨hM1 x, fun hne => ?_⟩
    cases hq : tickM c now x with
    | nil => rfl
    | cons a l => exact absurd (hM x hx a (by rw [hq]; simp)).1 hne
  · unfold tickA at hp
    dsimp only at hp
    obtain ⟨⟨a, v⟩, hy, hp⟩ := List.mem_flatMap.1 hp
    have hx := ord_mem hy
    cases v with
    | res => cases hp
    | inc held sent first last =>
      unfold tickH at hp
      dsimp only at hp
      split at hp
      · rename_i hg
        obtain ⟨s, -, rfl⟩ := List.mem_map.1 hp
        exact ⟨rfl, (hag _ _ _ _ _ hx hg.1).1⟩
      · cases hp
  · unfold tickA
    dsimp only
    rw [flat_perm _ hper]
    exact tick_sum now A
/-- the table k sends -/
theorem Sys.send (h : Sys n U N now tl L) {k i : Nat} {t : Tb} (hk : L[k]? = some t) (hl : tl k = now) (hi : i ≤ n) (hik : i ≠ k) (h19 : now ≤ 19) (s : ByteArray) (hs : s.size ≤ 1024) :
    (sendF t.c t.A now (10 + (i : Int)) s).2.2.2 = 0 ∧ ((sendF t.c t.A now (10 + (i : Int)) s).2.1 = 0 ∨ (sendF t.c t.A now (10 + (i : Int)) s).2.1 = 1 + (i : Int)) ∧
    Sys n U (N ++ (sendF t.c t.A now (10 + (i : Int)) s).2.2.1.map fun a => (k, a)) now tl (L.set k ⟨t.T, t.c, (sendF t.c t.A now (10 + (i : Int)) s).1⟩) ∧
    (sendF t.c t.A now (10 + (i : Int)) s).2.2.1.length ≤ 1 ∧
    sumA (sendF t.c t.A now (10 + (i : Int)) s).1 ≤ sumA t.A + (if (sendF t.c t.A now (10 + (i : Int)) s).2.1 = 0 then 1 else 0) := by
  have hkn := h.lt hk
  have ht := h.tab k t hk
  have hc := ht.c
  have hn4 := h.n2.2
  have hfew := ht.few hn4
  obtain ⟨T, c, A⟩ := t
  dsimp only at hc ht hfew ⊢
  have hI := ht.inv.send h.now0 c (10 + (i : Int)) s
  have hb : ¬ (uniB (10 + (i : Int)) = false ∨ 10 + (i : Int) = c.own ∨ 1024 < s.size) := by
    have hu : uniB (10 + (i : Int)) = true := by unfold uniB; exact decide_eq_true (by omega)
    rw [hu, hc]
    dsimp only
    rintro (q | q | q)
    · cases q
    · omega
    · omega
  -- the others
  have oth : ∀ (A' : AL) (out : List Am), (∀ m ∈ out, m = (askM k i).2) → Inv A' now → (∀ y ∈ A', EntI n k (Way U (N ++ out.map fun a => (k, a)) now k) now y) → Sys n U (N ++ out.map fun a => (k, a)) now tl (L.set k ⟨T, c, A'⟩) := by
    intro A' out hout hI' hA'
    refine ⟨h.n2, h.now0, by rw [List.length_set]; exact h.len, fun j tj hj => ?_, h.u, fun x hx => ?_⟩
    · rw [List.getElem?_set] at hj
      by_cases ejk : k = j
      · subst ejk
        rw [if_pos rfl, if_pos (by rw [h.len]; exact hkn)] at hj
        cases hj
        refine ⟨hc, hI', fun y hy => ?_⟩
        rw [hl]; exact hA' y hy
      · rw [if_neg ejk] at hj
        have htj := h.tab j tj hj
        refine ⟨htj.c, htj.inv, fun x hx => (htj.ent x hx).mono fun i last hi he hw => ?_⟩
        rcases hw with q1 | q1 | ⟨q1, q2⟩ | ⟨q1, q2⟩
        · exact .inl q1
        · exact .inr (.inl q1)
        · exact .inr (.inr (.inl ⟨List.mem_append_left _ q1, q2⟩))
        · exact .inr (.inr (.inr ⟨List.mem_append_left _ q1, q2⟩))
    · rcases List.mem_append.1 hx with hx | hx
      · exact h.nx x hx
      · obtain ⟨a, ha, rfl⟩ := List.mem_map.1 hx
        rw [hout a ha]
        exact ⟨k, i, hkn, fun e => hik e.symm, .inl ⟨hi, rfl⟩⟩
  have old : ∀ (out : List Am), ∀ y ∈ A, EntI n k (Way U (N ++ out.map fun a => (k, a)) now k) now y := by
    intro out y hy
    have := ht.ent y hy
    rw [hl] at this
    refine this.mono fun i last hi he hw => ?_
    rcases hw with q1 | q1 | ⟨q1, q2⟩ | ⟨q1, q2⟩
    · exact .inl q1
    · exact .inr (.inl q1)
    · exact .inr (.inr (.inl ⟨List.mem_append_left _ q1, q2⟩))
    · exact .inr (.inr (.inr ⟨List.mem_append_left _ q1, q2⟩))
  unfold sendF at hI ⊢
  rw [if_neg hb] at hI ⊢
  cases hlk : look A (10 + (i : Int)) with
  | none =>
    rw [hlk] at hI
    dsimp only at hI ⊢
    have hr : roomA A = A := by unfold roomA; rw [if_neg (by omega)]
    rw [hr] at hI ⊢
    refine ⟨rfl, .inl rfl, oth _ _ (fun m hm => ?_) hI (fun y hy => ?_), by simp, ?_⟩
    · rw [List.mem_singleton] at hm; rw [hm, hc]; rfl
    · rcases List.mem_append.1 hy with hy | hy
      · exact old _ y hy
      · rw [List.mem_singleton] at hy; subst hy
        refine ⟨i, hi, hik, rfl, fun q => ⟨h19, .inr (.inr (.inl ⟨List.mem_append_right _ ?_, Int.le_refl _⟩))⟩, fun q => ⟨by omega, by omega⟩⟩
        rw [List.map_cons, List.map_nil, List.mem_singleton, hc]; rfl
    · rw [sum_app]
      have e : sumA [(10 + (i : Int), Ev.inc [s] 1 now now)] = 1 := rfl
      rw [e, if_pos rfl]; exact Int.le_refl _
  | some v =>
    have hmem := look_mem hlk
    have hE := ht.ent _ hmem
    obtain ⟨i', h1, h2, h3, h4⟩ := hE
    dsimp only at h3
    have hii : i' = i := by omega
    subst hii
    cases v with
    | inc held sent first last =>
      rw [hlk] at hI
      dsimp only at hI ⊢
      have hsm := sum_upd (v' := .inc (last4 (held ++ [s])) sent first last) ht.inv.nod hlk
      have e1 : Ev.n (.inc held sent first last) = (held.length : Int) := rfl
      have e2 : Ev.n (.inc (last4 (held ++ [s])) sent first last) = ((last4 (held ++ [s])).length : Int) := rfl
      have e3 : (last4 (held ++ [s])).length ≤ held.length + 1 := by
        unfold last4
        split <;> simp
      rw [e1, e2] at hsm
      refine ⟨rfl, .inl rfl, oth _ [] (fun m hm => by cases hm) hI (fun y hy => ?_), by simp, by rw [if_pos rfl]; omega⟩
      rcases mem_upd hy with rfl | hy
      · have := old [] _ hmem
        obtain ⟨i2, q1, q2, q3, q4⟩ := this
        exact ⟨i2, q1, q2, q3, q4⟩
      · exact old [] y hy
    | res mac since used =>
      rw [hlk] at hI
      dsimp only at hI ⊢
      have hmac : mac = 1 + (i' : Int) := h4.2
      have hsm := sum_upd (v' := .res mac since now) ht.inv.nod hlk
      have e1 : Ev.n (.res mac since used) = 0 := rfl
      have e2 : Ev.n (.res mac since now) = 0 := rfl
      rw [e1, e2] at hsm
      refine ⟨rfl, .inr hmac, oth _ [] (fun m hm => by cases hm) hI (fun y hy => ?_), by simp, by rw [if_neg (by omega)]; omega⟩
      rcases mem_upd hy with rfl | hy
      · exact ⟨i', h1, h2, rfl, h4⟩
      · exact old [] y hy
/-- the table k sends to itself -/
theorem Sys.sendOwn (h : Sys n U N now tl L) {k : Nat} {t : Tb} (hk : L[k]? = some t) (s : ByteArray) : sendF t.c t.A now (10 + (k : Int)) s = (t.A, 0, [], 50) := by
  have hc := (h.tab k t hk).c
  unfold sendF
  rw [if_pos (.inr (.inl (by rw [hc])))]
/-- the next tick begins: the frames are those that were made -/
theorem Sys.turn (h : Sys n U N now tl L) (hU : ∀ j, U j = []) : Sys n (fun _ => N) [] (now + 1) tl L := by
  refine ⟨h.n2, by have := h.now0; omega, h.len, fun j t hj => ?_, fun _ _ m hm => h.nx m hm, fun m hm => (by cases hm)⟩
  have ht := h.tab j t hj
  refine ⟨ht.c, ht.inv.mono (by omega), fun x hx => (ht.ent x hx).mono fun i last hi he hw => ?_⟩
  rcases h.way hU hw with ⟨q, q2⟩ | ⟨q, q2⟩
  · exact .inl ⟨q, by omega⟩
  · exact .inr (.inl ⟨q, by omega⟩)
/-- after the last tick nothing waits -/
theorem Sys.done (h : Sys n U N now tl L) (hU : ∀ j, U j = []) (h59 : now = 59) (htl : ∀ j, j < n → tl j = 59) {k : Nat} {t : Tb} (hk : L[k]? = some t) : sumA t.A = 0 := by
  have ht := h.tab k t hk
  have h2 : ∀ x ∈ t.A, x.2.n = 0 := fun x hx => by
    obtain ⟨i, h1, h2, h3, h4⟩ := ht.ent x hx
    have hev := ht.inv.ev x hx
    obtain ⟨a, v⟩ := x
    cases v with
    | res => rfl
    | inc held sent first last =>
      exfalso
      unfold EvI at hev
      dsimp only at hev h4
      by_cases hin : i < n
      · obtain ⟨q1, q2⟩ := h4.1 hin
        rcases h.way hU q2 with ⟨-, q⟩ | ⟨-, q⟩ <;> omega
      · have := h4.2 (by omega)
        rw [htl k (h.lt hk)] at this
        omega
  generalize t.A = A at h2
  unfold sumA
  induction A with
  | nil => rfl
  | cons x A ih =>
    rw [List.map_cons, List.foldr_cons, h2 x (List.mem_cons_self ..), ih (fun y hy => h2 y (List.mem_cons_of_mem _ hy))]; rfl
theorem Sys.start (h2 : 2 ≤ n ∧ n ≤ 4) (hl : L.length = n) (hL : ∀ (k : Nat) (t : Tb), L[k]? = some t → t.c = ⟨10 + (k : Int), 1 + (k : Int), false, 0⟩ ∧ t.A = []) : Sys n (fun _ => []) [] 0 (fun _ => -1) L := by
  refine ⟨h2, Int.le_refl _, hl, fun k t hk => ?_, fun _ _ m hm => (by cases hm), fun m hm => (by cases hm)⟩
  obtain ⟨q1, q2⟩ := hL k t hk
  exact ⟨q1, by rw [q2]; exact Inv.nil _, fun x hx => by rw [q2] at hx; cases hx⟩
end
end Go.Proofs.YtmgjcjacoegocaaDoor.Ar

namespace Go.Proofs.YtmgjcjacoegocaaDoor.Ar
set_option maxRecDepth 100000
open Go.RowKit Go.Proofs.YtmgjcjacoegocaaDoor.Wire

def dstM (a : Am) : Int := if a.op = 1 then 65535 else a.tm
def frB (m : Ms) : ByteArray := ⟨(Lk.fenc (dstM m.2) (1 + (m.1 : Int)) 1 (encM m.2)).toArray⟩
theorem ms_op {n : Nat} {m : Ms} (h : MsOk n m) : m.2.op = 1 ∨ m.2.op = 2 := by
  obtain ⟨k, i, -, -, ⟨-, rfl⟩ | ⟨-, rfl⟩⟩ := h
  · exact .inl rfl
  · exact .inr rfl
theorem ms_fr {n : Nat} {m : Ms} (hn : n ≤ 4) (h : MsOk n m) : Lk.FrOk (dstM m.2) (1 + (m.1 : Int)) 1 (encM m.2).length := by
  have h1 := msOk_ok hn h
  have h2 := ms_op h
  rw [encM_len]
  unfold Am.ok at h1
  unfold Lk.FrOk dstM
  split <;> omega
theorem hears_any (m : Ms) (k : Nat) : decide ((dstM m.2 = 1 + (k : Int) ∨ dstM m.2 = 65535) ∧ 1 + (m.1 : Int) ≠ 1 + (k : Int)) = hears m k := rfl
theorem str_one (l : List ByteArray) : ∀ u ∈ l.flatMap strC, u.oneCell' = true := fun u hu => by obtain ⟨p, -, hp⟩ := List.mem_flatMap.1 hu; simp [strC] at hp; rw [hp]; rfl
set_option maxHeartbeats 8000000 in
theorem encFrames_any (n k : Nat) (out : List Am) (B : Option Addr) (c lo : Nat) (a0 : Addr) (w : World) (hg : Lk.Gl w a0) (hm : MRow w lo B c out) (hn : n ≤ 4) (hk : k < n) (hok : ∀ a ∈ out, MsOk n (k, a)) (hlen : out.length ≤ 1000) :
    Calls Tryd.prog 21 #[.int .i64 (k : Int), .slice B out.length c] w fun e w' => ∃ (D : Option Addr) (d : Nat), e = .returned (.slice D out.length d) ∧ TRow w' w.heap.size D d (out.map fun a => frB (k, a)) ∧ Below w.heap.size w w' := by
  have HG := Lib.hid hg; have HM := Lib.hid hm; have HOk := Lib.hid hok; clear hg hm hok
  obtain ⟨iS, hi0, hz0, hz1, hz2⟩ := info_parts infoStr
  have HI0 := Lib.hid hi0; have HZ0 := Lib.hid hz0; have HZ1 := Lib.hid hz1; have HZ2 := Lib.hid hz2
  clear hi0 hz0 hz1 hz2
  obtain ⟨N, hN⟩ : ∃ N, out.length = N := ⟨_, rfl⟩
  have HN := Lib.hid hN
  rw [hN] at hlen ⊢
  clear hN
  have hks : IntKind.i64.wrap (1 + (k : Int)) = 1 + (k : Int) := IntWalk.i64_in _ (by omega)
  go_enter Tryd.func21, Tryd.ntmps21
  go_wp2_with fail
  go_loopw [5, 6] (fun s u wr => ∃ (i : Nat) (D : Option Addr) (d : Nat), i ≤ N ∧ u = .int .i64 (i : Int) ∧ s = .slice D i d ∧ TRow wr w.heap.size D d ((out.take i).map fun a => frB (k, a)) ∧ Below w.heap.size w wr) (fun _ u _ => N - (intOf u).toNat)
  case atStart => exact ⟨0, none, 0, by omega, rfl, rfl, SRow.nil _ _ _ _ _, Below.refl _ _⟩
  case round =>
    obtain ⟨i, D, d, hi, rfl, rfl, hR, hB⟩ := hrel
    obtain ⟨wo, rfl⟩ : ∃ wo : World, wo = wr := ⟨_, rfl⟩
    have HR := Lib.hid hR; have HB := Lib.hid hB; clear hR hB
    by_cases hlt : i < N
    · have hil : decide ((i : Int) < (N : Int)) = true := by simp; omega
      have hi0' : (0 : Int) ≤ (i : Int) := by omega
      have hi1 : (i : Int) < (N : Int) := by omega
      have hio : i < out.length := by rw [HN.out]; exact hlt
      obtain ⟨a, ha⟩ : ∃ a, out[i]? = some a := ⟨out[i], List.getElem?_eq_getElem hio⟩
      have hmo := HOk.out a (List.mem_of_getElem? ha)
      obtain ⟨g, rfl, hgl⟩ := HM.out.addr (by omega)
      have hmr := HM.out.below HB.out
      obtain ⟨r0, r1, r2, r3, r4⟩ := MRow.cells hmr ha
      have hgw := (hmr.bk' ⟨_, rfl, rfl⟩).2
      have hop : a.op = 1 ∨ a.op = 2 := ms_op hmo
      have hao := (msOk_ok hn hmo).1
      have HFr := Lib.hid (ms_fr hn hmo)
      have hsum : IntKind.i64.wrap ((i : Int) + 1) = (i : Int) + 1 := IntWalk.i64_in _ (by omega)
      have htk : Hid ((out.take (i + 1)).map (fun a => frB (k, a)) = (out.take i).map (fun a => frB (k, a)) ++ [frB (k, a)]) := Lib.hid (by rw [List.take_add_one, ha, List.map_append]; rfl)
      have HEn : Hid (∀ W, Calls Tryd.prog 40 #[.agg #[.int .i64 a.op, .int .i64 a.f, .int .i64 a.fm, .int .i64 a.t, .int .i64 a.tm]] W fun e w' => e = .returned (.tuple #[.string ⟨(encM a).toArray⟩, .int .i64 0]) ∧ Below W.heap.size W w') := Lib.hid fun W => encode_ok a.op a.f a.fm a.t a.tm W hao
      have HLn : Hid (((out.take i).map fun a => frB (k, a)).length = i) := Lib.hid (by rw [List.length_map, List.length_take]; omega)
      have HLk : Hid (∀ W, Lk.Gl W a0 → Calls Tryd.prog 35 #[.agg #[.int .i64 (dstM a), .int .i64 (1 + (k : Int)), .int .i64 1, .string ⟨(encM a).toArray⟩]] W fun e w' => e = .returned (.tuple #[.string (frB (k, a)), .int .i64 0]) ∧ Below W.heap.size W w') := Lib.hid fun W hg => Lk.encode_fr (dstM a) (1 + (k : Int)) 1 (encM a) W a0 hg HFr.out
      clear hmo hao hmr ha HFr
      have hdm : (a.op = 1 ∧ dstM a = 65535) ∨ (a.op = 2 ∧ dstM a = a.tm) := by
        unfold dstM
        rcases hop with q | q
        · exact .inl ⟨q, if_pos q⟩
        · exact .inr ⟨q, if_neg (by omega)⟩
      clear hop
      generalize frB (k, a) = FB at *
      generalize dstM a = ds at *
      generalize encM a = EA at *
      rcases hdm with ⟨ho, rfl⟩ | ⟨ho, rfl⟩
      · have hob : (a.op == 1) = true := by rw [ho]; rfl
        clear ho
        go_wp2_with fail
        clear r0 r1 r2 r3 r4 hob
        refine (HEn.out _).mono ?_
        rintro e w1 ⟨rfl, hb1⟩
        have HB1 := Lib.hid (below_call HB.out hb1); have HR1 := Lib.hid (HR.out.below hb1); clear HB HR hb1
        go_wp2_with fail
        refine (HLk.out _ (HG.out.below HB1.out)).mono ?_
        rintro e w2 ⟨rfl, hb2⟩
        have HB2 := Lib.hid (below_call HB1.out hb2); have HR2 := Lib.hid (HR1.out.below hb2); clear HB1 HR1 hb2
        have hz2 := HB2.out.size
        go_wp2_with (at_builtin; (refine Rw.list_app rfl (.tmp 46) (.tmp 48) 46 rfl (HR2.out.below ((Below.refl w2.heap.size w2).alloc (Nat.le_refl _) (.cells #[.string FB] 9))) (fun _ => rfl) iS _ 16 Tryd.underlying46 HI0.out HZ0.out HZ1.out HZ2.out rfl (by decide) _ HLn.out _ _ _ [FB] rfl rfl rfl (fun _ => ⟨_, rfl, World.news_of_block (heap_alloc_new w2 _)⟩) (str_one _) (by unfold maxLen; omega) (by omega) (by simp; omega) ?_); intro A2 c2 w7 hown hgrow hat)
        have HB7 := Lib.hid ((below_alloc (o := .cells #[.string FB] 9) HB2.out).grown hgrow (by simp; omega) (fun q e => by have := (HR2.out.bk' (ob_bk e)).1; omega))
        go_roundw
        case rel => exact ⟨i + 1, A2, c2, by omega, by go_num, rfl, by rw [htk.out]; exact hown, HB7.out⟩
        case measure => simp [intOf]; omega
      · have hob : (a.op == 1) = false := by rw [ho]; rfl
        clear ho
        go_wp2_with fail
        clear r0 r1 r2 r3 r4 hob
        refine (HEn.out _).mono ?_
        rintro e w1 ⟨rfl, hb1⟩
        have HB1 := Lib.hid (below_call HB.out hb1); have HR1 := Lib.hid (HR.out.below hb1); clear HB HR hb1
        go_wp2_with fail
        refine (HLk.out _ (HG.out.below HB1.out)).mono ?_
        rintro e w2 ⟨rfl, hb2⟩
        have HB2 := Lib.hid (below_call HB1.out hb2); have HR2 := Lib.hid (HR1.out.below hb2); clear HB1 HR1 hb2
        have hz2 := HB2.out.size
        go_wp2_with (at_builtin; (refine Rw.list_app rfl (.tmp 46) (.tmp 48) 46 rfl (HR2.out.below ((Below.refl w2.heap.size w2).alloc (Nat.le_refl _) (.cells #[.string FB] 9))) (fun _ => rfl) iS _ 16 Tryd.underlying46 HI0.out HZ0.out HZ1.out HZ2.out rfl (by decide) _ HLn.out _ _ _ [FB] rfl rfl rfl (fun _ => ⟨_, rfl, World.news_of_block (heap_alloc_new w2 _)⟩) (str_one _) (by unfold maxLen; omega) (by omega) (by simp; omega) ?_); intro A2 c2 w7 hown hgrow hat)
        have HB7 := Lib.hid ((below_alloc (o := .cells #[.string FB] 9) HB2.out).grown hgrow (by simp; omega) (fun q e => by have := (HR2.out.bk' (ob_bk e)).1; omega))
        go_roundw
        case rel => exact ⟨i + 1, A2, c2, by omega, by go_num, rfl, by rw [htk.out]; exact hown, HB7.out⟩
        case measure => simp [intOf]; omega
    · obtain rfl : i = N := by omega
      have hil : decide ((i : Int) < (i : Int)) = false := by simp
      go_wp2_with fail
      go_ret
      refine ⟨D, d, rfl, ?_, HB.out⟩
      have := HR.out
      rwa [← HN.out, List.take_length] at this
end Go.Proofs.YtmgjcjacoegocaaDoor.Ar

namespace Go.Proofs.YtmgjcjacoegocaaDoor.Ar
set_option maxRecDepth 100000
open Go.RowKit Go.Proofs.YtmgjcjacoegocaaDoor.Wire

section
variable {w W W' : World} {l : List Tb} {K : Nat → Prop}
/-- a row of K grows -/
theorem Many.grown (h : Many w l K W) {row : Option Nat} (hg : W.grownBy W' row) (hr : ∀ k, row = some k → K k ∧ w.heap.size ≤ k) : Many w l K W' := by
  obtain ⟨own, h1, h2, h3⟩ := h.tabs
  have hz := h.bel.size
  refine ⟨⟨own, fun i t hi => ?_, h2, h3⟩, ?_⟩
  · obtain ⟨m, es, clk, L, q1, q2, q3⟩ := h1 i t hi
    have hil := (List.getElem?_eq_some_iff.1 hi).1
    refine ⟨m, es, clk, L, q1.kept (fun q hq => hg.block q (q1.lt hq) (fun e => (h3 i q hil ((q3 q).1 hq)).2 (hr q e.symm).1)), q2, q3⟩
  · exact ⟨hg.os.trans h.bel.os, hg.tape.trans h.bel.tape, hg.output.trans h.bel.output, Nat.le_trans hz hg.size, fun k hk => (hg.block k (by omega) (fun e => by have := (hr k e.symm).2; omega)).trans (h.bel.block k hk)⟩
theorem Many.sub (h : Many w l K W) {K' : Nat → Prop} (hk : ∀ q, K' q → K q) : Many w l K' W := h.more fun q hq => .inl (hk q hq)
end
structure NS (w Wr : World) (L : List Tb) (P : Nat → Prop) (fs : List ByteArray) (Na : Option Addr) (Nc : Nat) (W : World) : Prop where
  many : ∃ K, Many w L K W ∧ (∀ q, P q → K q) ∧ (∀ q, BK Na q → K q)
  row : TRow W w.heap.size Na Nc fs
  dis : ∀ q, P q → ¬ BK Na q
  std : ∀ q, P q → q < Wr.heap.size ∧ W.heap[q]? = Wr.heap[q]?
  size : Wr.heap.size ≤ W.heap.size
section
variable {w Wr W W' : World} {L : List Tb} {P : Nat → Prop} {fs : List ByteArray} {Na : Option Addr} {Nc : Nat}
theorem NS.bel (h : NS w Wr L P fs Na Nc W) : Below w.heap.size w W := by obtain ⟨K, hM, -, -⟩ := h.many; exact hM.bel
theorem NS.below (h : NS w Wr L P fs Na Nc W) (hb : Below W.heap.size W W') : NS w Wr L P fs Na Nc W' := by
  obtain ⟨K, hM, hP, hN⟩ := h.many
  exact ⟨⟨K, hM.below hb, hP, hN⟩, h.row.below hb, h.dis, fun q hq => ⟨(h.std q hq).1, (hb.block q (Nat.lt_of_lt_of_le (h.std q hq).1 h.size)).trans (h.std q hq).2⟩, Nat.le_trans h.size hb.size⟩
theorem NS.start {K : Nat → Prop} (hM : Many w L K W) (hP : ∀ q, P q → K q ∧ q < W.heap.size) : NS w W L P [] none 0 W :=
  ⟨⟨K, hM, fun q hq => (hP q hq).1, fun q hq => (bk_none q hq).elim⟩, SRow.nil _ _ _ _ _, fun q _ => bk_none q, fun q hq => ⟨(hP q hq).2, rfl⟩, Nat.le_refl _⟩
/-- one more block that stands -/
theorem NS.add (h : NS w Wr L P fs Na Nc W) (o : Obj) : NS w (W.alloc o) L (fun q => P q ∨ q = W.heap.size) fs Na Nc (W.alloc o) := by
  obtain ⟨K, hM, hP, hN⟩ := h.many
  have hb : Below W.heap.size W (W.alloc o) := (Below.refl _ _).alloc (Nat.le_refl _) o
  have hsz : (W.alloc o).heap.size = W.heap.size + 1 := by simp
  refine ⟨⟨fun q => K q ∨ W.heap.size ≤ q, (hM.more (fun q r => r)).below hb, fun q hq => ?_, fun q hq => .inl (hN q hq)⟩, h.row.below hb, fun q hq => ?_, fun q hq => ⟨?_, rfl⟩, Nat.le_refl _⟩
  · rcases hq with hq | hq
    · exact .inl (hP q hq)
    · exact .inr (by omega)
  · rcases hq with hq | hq
    · exact h.dis q hq
    · intro r; have := (h.row.bk' r).2; omega
  · rcases hq with hq | hq
    · have := (h.std q hq).1; have := h.size; omega
    · omega
/-- fewer blocks, another world in which they stand -/
theorem NS.re (h : NS w Wr L P fs Na Nc W) {Wr' : World} {P' : Nat → Prop} (hP : ∀ q, P' q → P q ∧ q < Wr'.heap.size ∧ Wr.heap[q]? = Wr'.heap[q]?) (hz : Wr'.heap.size ≤ W.heap.size) : NS w Wr' L P' fs Na Nc W := by
  obtain ⟨K, hM, hPK, hN⟩ := h.many
  exact ⟨⟨K, hM, fun q hq => hPK q (hP q hq).1, hN⟩, h.row, fun q hq => h.dis q (hP q hq).1, fun q hq => ⟨(hP q hq).2.1, (h.std q (hP q hq).1).2.trans (hP q hq).2.2⟩, hz⟩
theorem NS.rows {α : Type} {T : TypeId} {k : Nat} {enc : α → List Value} {lo : Nat} {A : Option Addr} {c : Nat} {l : List α} (h : NS w Wr L P fs Na Nc W) (hr : SRow T k enc Wr lo A c l) (hA : ∀ q, BK A q → P q) : SRow T k enc W lo A c l := hr.kept fun a e => (h.std _ (hA _ ⟨a, e, rfl⟩)).2
theorem NS.blk (h : NS w Wr L P fs Na Nc W) {q : Nat} (hq : P q) {o : Obj} (hr : Wr.heap[q]? = some o) : W.heap[q]? = some o := (h.std q hq).2.trans hr
/-- the row of frames grows -/
theorem NS.app (h : NS w Wr L P fs Na Nc W) {A' : Option Addr} {c' n : Nat} {xs : List ByteArray} (hown : TRow W' w.heap.size A' c' (fs ++ xs)) (hg : W.grownBy W' (Value.ownBlock (.slice Na n Nc))) (hat : ∀ q, BK A' q → (BK Na q ∨ W.heap.size ≤ q)) : NS w Wr L P (fs ++ xs) A' c' W' := by
  obtain ⟨K, hM, hP, hN⟩ := h.many
  refine ⟨⟨fun q => K q ∨ W.heap.size ≤ q, (hM.more (fun q r => r)).grown hg (fun k e => ⟨.inl (hN k (ob_bk e)), (h.row.bk' (ob_bk e)).1⟩), fun q hq => .inl (hP q hq), fun q hq => ?_⟩, hown, fun q hq r => ?_, fun q hq => ⟨(h.std q hq).1, ?_⟩, Nat.le_trans h.size hg.size⟩
  · rcases hat q hq with r | r
    · exact .inl (hN q r)
    · exact .inr r
  · rcases hat q r with s | s
    · exact h.dis q hq s
    · have := (h.std q hq).1; have := h.size; omega
  · exact (hg.block q (Nat.lt_of_lt_of_le (h.std q hq).1 h.size) (fun e => h.dis q hq (ob_bk e.symm))).trans (h.std q hq).2
/-- behind a call at one of the tables -/
theorem NS.after {K : Nat → Prop} (h : NS w Wr L P fs Na Nc W) (hP : ∀ q, P q → K q) (hN : ∀ q, BK Na q → K q) {L' : List Tb} {N : Nat → Prop} (hM : Many w L' (fun q => (K q ∧ q < W.heap.size) ∨ N q) W') (hk : Kept K W W') (hNn : ∀ q, N q → W.heap.size ≤ q ∧ q < W'.heap.size) :
    NS w W' L' (fun q => P q ∨ N q) fs Na Nc W' ∧ (∀ q, P q → W'.heap[q]? = W.heap[q]?) ∧ W.heap.size ≤ W'.heap.size := by
  have hlt : ∀ q, P q → q < W.heap.size := fun q hq => Nat.lt_of_lt_of_le (h.std q hq).1 h.size
  refine ⟨⟨⟨_, hM, fun q hq => ?_, fun q hq => .inl ⟨hN q hq, (h.row.bk' hq).2⟩⟩, h.row.kept (fun a e => hk.2 _ (hN _ ⟨a, e, rfl⟩) (h.row.bk e).2), fun q hq r => ?_, fun q hq => ⟨?_, rfl⟩, Nat.le_refl _⟩, fun q hq => hk.2 q (hP q hq) (hlt q hq), hk.1⟩
  · rcases hq with hq | hq
    · exact .inl ⟨hP q hq, hlt q hq⟩
    · exact .inr hq
  · rcases hq with hq | hq
    · exact h.dis q hq r
    · have := (hNn q hq).1; have := (h.row.bk' r).2; omega
  · rcases hq with hq | hq
    · have := hlt q hq; have := hk.1; omega
    · exact (hNn q hq).2
theorem NS.recv (h : NS w Wr L P fs Na Nc W) {i : Nat} {t : Tb} (hi : L[i]? = some t) (now op f fm to_ tm : Int) (c' : Tc) (A' : AL) (out : List Am) (held : List Hp) (he : recvA t.c t.A now ⟨op, f, fm, to_, tm⟩ = (c', A', out, held)) (h1 : In64 now) (h2 : In64 t.c.at_) :
    Calls Tryd.prog 20 #[.pointer (some ⟨t.T, 0, none⟩), .int .i64 now, .agg #[.int .i64 op, .int .i64 f, .int .i64 fm, .int .i64 to_, .int .i64 tm]] W fun x W' =>
      ∃ (B : Option Addr) (k : Nat) (D : Option Addr) (d : Nat), x = .returned (.tuple #[.slice B out.length k, .slice D held.length d]) ∧ MRow W' W.heap.size B k out ∧ HRow W' W.heap.size D d held ∧ NS w W' (L.set i ⟨t.T, c', A'⟩) (fun q => P q ∨ (BK B q ∨ BK D q)) fs Na Nc W' ∧ (∀ q, P q → W'.heap[q]? = W.heap[q]?) ∧ W.heap.size ≤ W'.heap.size := by
  obtain ⟨K, hM, hP, hN⟩ := h.many
  refine (hM.recv hi now op f fm to_ tm c' A' out held he h1 h2).mono ?_
  rintro x W' ⟨B, k, D, d, rfl, hm, hh, hM', hk⟩
  exact ⟨B, k, D, d, rfl, hm, hh, h.after hP hN hM' hk (fun q hq => hq.elim (fun r => hm.bk' r) (fun r => hh.bk' r))⟩
theorem NS.tick (h : NS w Wr L P fs Na Nc W) {i : Nat} {t : Tb} (hi : L[i]? = some t) (now : Int) (A' : AL) (out : List Am) (held : List Hp) (he : tickA t.c t.A now = (A', out, held)) (hn : In64 now) (hA : t.A.length ≤ 1000) (h64 : ∀ x ∈ t.A, In64 x.1) (hne : ∀ x ∈ t.A, x.2.some_) :
    Calls Tryd.prog 22 #[.pointer (some ⟨t.T, 0, none⟩), .int .i64 now] W fun x W' =>
      ∃ (B : Option Addr) (k : Nat) (D : Option Addr) (d : Nat), x = .returned (.tuple #[.slice B out.length k, .slice D held.length d]) ∧ MRow W' W.heap.size B k out ∧ HRow W' W.heap.size D d held ∧ NS w W' (L.set i ⟨t.T, t.c, A'⟩) (fun q => P q ∨ (BK B q ∨ BK D q)) fs Na Nc W' ∧ (∀ q, P q → W'.heap[q]? = W.heap[q]?) ∧ W.heap.size ≤ W'.heap.size := by
  obtain ⟨K, hM, hP, hN⟩ := h.many
  refine (hM.tick hi now A' out held he hn hA h64 hne).mono ?_
  rintro x W' ⟨B, k, D, d, rfl, hm, hh, hM', hk⟩
  exact ⟨B, k, D, d, rfl, hm, hh, h.after hP hN hM' hk (fun q hq => hq.elim (fun r => hm.bk' r) (fun r => hh.bk' r))⟩
theorem NS.send (h : NS w Wr L P fs Na Nc W) {i : Nat} {t : Tb} (hi : L[i]? = some t) (now to_ : Int) (s : ByteArray) (A' : AL) (mac : Int) (out : List Am) (err : Int) (he : sendF t.c t.A now to_ s = (A', mac, out, err)) (hs : s.size ≤ 9223372036854775807) (hn : In64 now) (hA : t.A.length ≤ 1000) (h64 : ∀ x ∈ t.A, In64 x.1) :
    Calls Tryd.prog 23 #[.pointer (some ⟨t.T, 0, none⟩), .int .i64 now, .int .i64 to_, .string s] W fun x W' =>
      ∃ (B : Option Addr) (k : Nat), x = .returned (.tuple #[.int .i64 mac, .slice B out.length k, .int .i64 err]) ∧ MRow W' W.heap.size B k out ∧ NS w W' (L.set i ⟨t.T, t.c, A'⟩) (fun q => P q ∨ BK B q) fs Na Nc W' ∧ (∀ q, P q → W'.heap[q]? = W.heap[q]?) ∧ W.heap.size ≤ W'.heap.size := by
  obtain ⟨K, hM, hP, hN⟩ := h.many
  refine (hM.send hi now to_ s A' mac out err he hs hn hA h64).mono ?_
  rintro x W' ⟨B, k, rfl, hm, hM', hk⟩
  exact ⟨B, k, rfl, hm, h.after hP hN hM' hk (fun q hq => hm.bk' hq)⟩
theorem NS.sizes (h : NS w Wr L P fs Na Nc W) {i : Nat} {t : Tb} (hi : L[i]? = some t) (n : Nat) (z : Int) (hn : t.A.length = n) (hz : sumA t.A = z) (hl : n ≤ 1000) :
    Calls Tryd.prog 25 #[.pointer (some ⟨t.T, 0, none⟩)] W fun x W' => x = .returned (.tuple #[.int .i64 (n : Int), .int .i64 z]) ∧ Below W.heap.size W W' := by
  obtain ⟨K, hM, -, -⟩ := h.many
  exact hM.sizes hi n z hn hz hl
end
/-- the row of the tables' pointers -/
def ptrC (T : Nat) : List Value := [.pointer (some ⟨T, 0, none⟩)]
theorem ts_set {L : List Tb} {i : Nat} {t : Tb} (hi : L[i]? = some t) (c' : Tc) (A' : AL) : (L.set i ⟨t.T, c', A'⟩).map (·.T) = L.map (·.T) := by
  rw [List.map_set]
  have : (L.map (·.T))[i]? = some t.T := by rw [List.getElem?_map, hi]; rfl
  obtain ⟨hl, e⟩ := List.getElem?_eq_some_iff.1 this
  rw [← e, List.set_getElem_self]
end Go.Proofs.YtmgjcjacoegocaaDoor.Ar

namespace Go.Proofs.YtmgjcjacoegocaaDoor.Ar
set_option maxRecDepth 100000
open Go.RowKit Go.Proofs.YtmgjcjacoegocaaDoor.Wire

section
variable {n : Nat} {U : Nat → List Ms} {N : List Ms} {now : Int} {tl : Nat → Int} {L : List Tb}
theorem Sys.congr (h : Sys n U N now tl L) {U' : Nat → List Ms} {tl' : Nat → Int} (hU : ∀ j, j < n → U' j = U j) (ht : ∀ j, j < n → tl' j = tl j) : Sys n U' N now tl' L := by
  refine ⟨h.n2, h.now0, h.len, fun k t hk => ?_, fun k hk m hm => h.u k hk m (by rw [← hU k hk]; exact hm), h.nx⟩
  have hkn := h.lt hk
  have q := h.tab k t hk
  refine ⟨q.c, q.inv, fun x hx => ?_⟩
  have e := q.ent x hx
  rw [ht k hkn]
  refine e.mono fun i last hi _ hw => ?_
  unfold Way at hw ⊢
  rw [hU i hi, hU k hkn]
  exact hw
theorem Sys.table (h : Sys n U N now tl L) {k : Nat} {t : Tb} (hk : L[k]? = some t) : t.c = ⟨10 + (k : Int), 1 + (k : Int), false, 0⟩ ∧ t.A.length ≤ 1000 ∧ (∀ x ∈ t.A, In64 x.1) ∧ (∀ x ∈ t.A, x.2.some_) := by
  have q := h.tab k t hk
  refine ⟨q.c, by have := q.few h.n2.2; omega, fun x hx => ?_, fun x hx => ?_⟩
  · have := q.inv.key x hx; exact ⟨by omega, by omega⟩
  · have := q.inv.ev x hx
    obtain ⟨a, v⟩ := x
    cases v with
    | inc held sent first last => exact this.1.1
    | res => trivial
theorem Sys.quiet (h : Sys n U [] 60 (fun _ => 59) L) {k : Nat} {t : Tb} (hk : L[k]? = some t) : sumA t.A = 0 := by
  have ht := h.tab k t hk
  have h2 : ∀ x ∈ t.A, x.2.n = 0 := fun x hx => by
    obtain ⟨i, h1, h2, h3, h4⟩ := ht.ent x hx
    have hev := ht.inv.ev x hx
    obtain ⟨a, v⟩ := x
    cases v with
    | res => rfl
    | inc held sent first last =>
      exfalso
      unfold EvI at hev
      dsimp only at hev h4
      by_cases hin : i < n
      · obtain ⟨q1, q2⟩ := h4.1 hin
        rcases q2 with ⟨-, q⟩ | ⟨-, q⟩ | ⟨q, -⟩ | ⟨q, -⟩
        · omega
        · omega
        · cases q
        · cases q
      · have := h4.2 (by omega)
        omega
  generalize t.A = A at h2
  unfold sumA
  induction A with
  | nil => rfl
  | cons x A ih =>
    rw [List.map_cons, List.foldr_cons, h2 x (List.mem_cons_self ..), ih (fun y hy => h2 y (List.mem_cons_of_mem _ hy))]; rfl
end
/-- the law's state when the tick at now begins: F are the frames -/
structure LS (w : World) (n : Nat) (At : Option Addr) (ct : Nat) (Ts : List Nat) (now : Nat) (F : List Ms) (Fa : Option Addr) (Fc : Nat) (L : List Tb) (o sn : Int) (W : World) : Prop where
  sys : Sys n (fun _ => F) [] (now : Int) (fun _ => (now : Int) - 1) L
  cnt : 0 ≤ o ∧ o + tot L ≤ sn ∧ sn ≤ now
  len : F.length ≤ 5 * now
  ns : NS w W L (fun q => BK At q ∨ BK Fa q) [] none 0 W
  ts : SRow 43 1 ptrC W w.heap.size At ct Ts
  tsL : L.map (·.T) = Ts
  fr : TRow W w.heap.size Fa Fc (F.map frB)
/-- the state when the first i frames have been heard -/
structure L3 (w wo : World) (n : Nat) (Ts : List Nat) (P : Nat → Prop) (now : Nat) (F : List Ms) (sn : Int) (i : Nat) (N : List Ms) (Na : Option Addr) (Nc : Nat) (L : List Tb) (o : Int) (W : World) : Prop where
  sys : Sys n (fun _ => F.drop i) N (now : Int) (fun _ => (now : Int) - 1) L
  cnt : 0 ≤ o ∧ o + tot L ≤ sn
  len : N.length ≤ i
  ns : NS w wo L P (N.map frB) Na Nc W
  tsL : L.map (·.T) = Ts
/-- the state when the first k interfaces have heard frame i, whose message is m -/
structure L4 (w wo : World) (n : Nat) (Ts : List Nat) (P : Nat → Prop) (now : Nat) (F : List Ms) (sn : Int) (i : Nat) (m : Ms) (k : Nat) (N : List Ms) (Na : Option Addr) (Nc : Nat) (L : List Tb) (o : Int) (W : World) : Prop where
  sys : Sys n (fun j => F.drop (if j < k then i + 1 else i)) N (now : Int) (fun _ => (now : Int) - 1) L
  cnt : 0 ≤ o ∧ o + tot L ≤ sn
  len : N.length ≤ i + (if m.2.op = 1 ∧ m.2.t < 10 + (k : Int) then 1 else 0)
  ns : NS w wo L P (N.map frB) Na Nc W
  tsL : L.map (·.T) = Ts
section
variable {w wo : World} {n : Nat} {Ts : List Nat} {P : Nat → Prop} {now : Nat} {F : List Ms} {sn : Int} {i : Nat} {m : Ms} {k : Nat} {N : List Ms} {Na : Option Addr} {Nc : Nat} {L : List Tb} {o : Int} {W : World}
theorem L4.hd (h : L4 w wo n Ts P now F sn i m k N Na Nc L o W) (hm : F[i]? = some m) (_ : k < n) : (fun j => F.drop (if j < k then i + 1 else i)) k = m :: F.drop (i + 1) := by
  dsimp only
  rw [if_neg (by omega)]
  obtain ⟨hl, rfl⟩ := List.getElem?_eq_some_iff.1 hm
  exact List.drop_eq_getElem_cons hl
theorem step_U (F : List Ms) (i k : Nat) : ∀ j, (fun j => F.drop (if j < k + 1 then i + 1 else i)) j = (fun j => if j = k then F.drop (i + 1) else (fun j => F.drop (if j < k then i + 1 else i)) j) j := by
  intro j
  dsimp only
  by_cases e : j = k
  · rw [if_pos e, if_pos (by omega)]
  · rw [if_neg e]
    by_cases q : j < k
    · rw [if_pos q, if_pos (by omega)]
    · rw [if_neg q, if_neg (by omega)]
theorem L4.deaf (h : L4 w wo n Ts P now F sn i m k N Na Nc L o W) (hm : F[i]? = some m) (hk : k < n) (hh : hears m k = false) {W' : World} (hb : Below W.heap.size W W') : L4 w wo n Ts P now F sn i m (k + 1) N Na Nc L o W' := by
  refine ⟨(h.sys.deaf hk (h.hd hm hk) hh).congr (fun j _ => step_U F i k j) (fun _ _ => rfl), h.cnt, ?_, h.ns.below hb, h.tsL⟩
  have := h.len
  split at this <;> split <;> omega
/-- one more interface has heard the frame -/
theorem L4.hear (h : L4 w wo n Ts P now F sn i m k N Na Nc L o W) (hm : F[i]? = some m) (hk : k < n) (hh : hears m k = true) {t : Tb} (ht : L[k]? = some t) {c' : Tc} {A' : AL} {out : List Am} {held : List Hp} (he : recvA t.c t.A (now : Int) m.2 = (c', A', out, held)) :
    (∀ a ∈ out, MsOk n (k, a)) ∧ out.length ≤ 1 ∧ (∀ p ∈ held, ∃ j : Nat, j < n ∧ p.to_ = 10 + (j : Int) ∧ p.mac = 1 + (j : Int)) ∧ (held.length : Int) ≤ sn ∧
    (∀ (wq : World) (P' : Nat → Prop) (Na' : Option Addr) (Nc' : Nat) (W' : World), NS w wq (L.set k ⟨t.T, c', A'⟩) P' (N.map frB ++ out.map fun a => frB (k, a)) Na' Nc' W' → L4 w wq n Ts P' now F sn i m (k + 1) (N ++ out.map fun a => (k, a)) Na' Nc' (L.set k ⟨t.T, c', A'⟩) (o + (held.length : Int)) W') := by
  obtain ⟨h1, h2, h3, h4⟩ := h.sys.hear ht (h.hd hm hk) hh
  rw [he] at h1 h2 h3 h4
  dsimp only at h1 h2 h3 h4
  have hts := tot_set (t' := ⟨t.T, c', A'⟩) ht
  dsimp only at hts
  have hnn := h1.nn
  have hc := h.cnt
  refine ⟨fun a ha => h1.nx _ (List.mem_append_right _ (List.mem_map.2 ⟨a, ha, rfl⟩)), by split at h2 <;> omega, h3, by omega, fun wq P' Na' Nc' W' hns => ⟨h1.congr (fun j _ => step_U F i k j) (fun _ _ => rfl), ⟨by omega, by omega⟩, ?_, by rw [List.map_append, List.map_map]; exact hns, by rw [ts_set ht]; exact h.tsL⟩⟩
  have hl := h.len
  rw [List.length_append, List.length_map]
  split at h2
  · rename_i q
    rw [if_neg (by omega)] at hl
    rw [if_pos (by omega)]
    omega
  · split at hl <;> split <;> omega
theorem L3.into (h : L3 w wo n Ts P now F sn i N Na Nc L o W) {wq : World} {P' : Nat → Prop} {W' : World} (hns : NS w wq L P' (N.map frB) Na Nc W') (m : Ms) (hm : 10 ≤ m.2.t) : L4 w wq n Ts P' now F sn i m 0 N Na Nc L o W' :=
  ⟨h.sys.congr (fun j _ => by rw [if_neg (by omega)]) (fun _ _ => rfl), h.cnt, by rw [if_neg (by omega)]; exact h.len, hns, h.tsL⟩
theorem L4.out_ (h : L4 w wo n Ts P now F sn i m n N Na Nc L o W) {wq : World} {P' : Nat → Prop} (hns : NS w wq L P' (N.map frB) Na Nc W) : L3 w wq n Ts P' now F sn (i + 1) N Na Nc L o W :=
  ⟨h.sys.congr (fun j hj => by rw [if_pos hj]) (fun _ _ => rfl), h.cnt, by have := h.len; split at this <;> omega, hns, h.tsL⟩
end
/-- the state when the first k tables have ticked -/
structure L6 (w wo : World) (n : Nat) (Ts : List Nat) (P : Nat → Prop) (now : Nat) (f : Nat) (sn : Int) (k : Nat) (N : List Ms) (Na : Option Addr) (Nc : Nat) (L : List Tb) (o : Int) (W : World) : Prop where
  sys : Sys n (fun _ => []) N (now : Int) (fun j => if j < k then (now : Int) else (now : Int) - 1) L
  cnt : 0 ≤ o ∧ o + tot L ≤ sn
  len : N.length ≤ f + k
  ns : NS w wo L P (N.map frB) Na Nc W
  tsL : L.map (·.T) = Ts
section
variable {w wo : World} {n : Nat} {Ts : List Nat} {P : Nat → Prop} {now f : Nat} {F : List Ms} {sn : Int} {i : Nat} {m : Ms} {k : Nat} {N : List Ms} {Na : Option Addr} {Nc : Nat} {L : List Tb} {o : Int} {W : World}
theorem L3.ticks (h : L3 w wo n Ts P now F sn F.length N Na Nc L o W) : L6 w wo n Ts P now F.length sn 0 N Na Nc L o W :=
  ⟨h.sys.congr (fun j _ => by rw [List.drop_length]) (fun j _ => by rw [if_neg (by omega)]), h.cnt, h.len, h.ns, h.tsL⟩
theorem L6.tick (h : L6 w wo n Ts P now f sn k N Na Nc L o W) (_ : k < n) {t : Tb} (ht : L[k]? = some t) {A' : AL} {out : List Am} {held : List Hp} (he : tickA t.c t.A (now : Int) = (A', out, held)) :
    (∀ a ∈ out, MsOk n (k, a)) ∧ out.length ≤ 1 ∧ (∀ p ∈ held, p.mac = 0 ∧ p.to_ = 10 + (n : Int)) ∧ (held.length : Int) ≤ sn ∧
    (∀ (wq : World) (P' : Nat → Prop) (Na' : Option Addr) (Nc' : Nat) (W' : World), NS w wq (L.set k ⟨t.T, t.c, A'⟩) P' (N.map frB ++ out.map fun a => frB (k, a)) Na' Nc' W' → L6 w wq n Ts P' now f sn (k + 1) (N ++ out.map fun a => (k, a)) Na' Nc' (L.set k ⟨t.T, t.c, A'⟩) (o + (held.length : Int)) W') := by
  obtain ⟨h1, h2, h3, h4⟩ := h.sys.tick (fun _ => rfl) ht (by rw [if_neg (by omega)])
  rw [he] at h1 h2 h3 h4
  dsimp only at h1 h2 h3 h4
  have hts := tot_set (t' := ⟨t.T, t.c, A'⟩) ht
  dsimp only at hts
  have hnn := h1.nn
  have hc := h.cnt
  have hl := h.len
  refine ⟨fun a ha => h1.nx _ (List.mem_append_right _ (List.mem_map.2 ⟨a, ha, rfl⟩)), h2, h3, by omega, fun wq P' Na' Nc' W' hns => ⟨h1.congr (fun _ _ => rfl) (fun j _ => ?_), ⟨by omega, by omega⟩, by rw [List.length_append, List.length_map]; omega, by rw [List.map_append, List.map_map]; exact hns, by rw [ts_set ht]; exact h.tsL⟩⟩
  by_cases e : j = k
  · rw [if_pos e, if_pos (by omega)]
  · rw [if_neg e]
    by_cases q : j < k
    · rw [if_pos q, if_pos (by omega)]
    · rw [if_neg q, if_neg (by omega)]
/-- the tick ends without a call of Send -/
theorem L6.turn {At Fa : Option Addr} {ct : Nat} (h : L6 w wo n Ts (fun q => BK At q ∨ BK Fa q) now f sn n N Na Nc L o W) (hf : f ≤ 5 * now) (hs : sn ≤ now) {L' : List Tb} {N' : List Ms} {Na' : Option Addr} {Nc' : Nat} {sn' : Int} {wq W' : World} (hsys : Sys n (fun _ => []) N' (now : Int) (fun _ => (now : Int)) L') (hcnt : o + tot L' ≤ sn' ∧ sn' ≤ sn + 1) (hlen : N'.length ≤ N.length + 1) (hns : NS w wq L' (fun q => BK At q ∨ BK Fa q) (N'.map frB) Na' Nc' W') (htsL : L'.map (·.T) = Ts) (hts' : SRow 43 1 ptrC W' w.heap.size At ct Ts) : LS w n At ct Ts (now + 1) N' Na' Nc' L' o sn' W' := by
  have hn := h.sys.n2
  have hl := h.len
  obtain ⟨K, hM, hP, hN⟩ := hns.many
  refine ⟨?_, ⟨h.cnt.1, hcnt.1, by omega⟩, by omega, NS.start hM (fun q hq => ?_), hts', htsL, hns.row⟩
  · have := hsys.turn (fun _ => rfl)
    rw [Int.natCast_succ]
    exact this.congr (fun _ _ => rfl) (fun _ _ => by omega)
  · rcases hq with hq | hq
    · exact ⟨hP q (.inl hq), (hts'.bk' hq).2⟩
    · exact ⟨hN q hq, (hns.row.bk' hq).2⟩
theorem L6.all (h : L6 w wo n Ts P now f sn n N Na Nc L o W) : Sys n (fun _ => []) N (now : Int) (fun _ => (now : Int)) L := h.sys.congr (fun _ _ => rfl) (fun j hj => by rw [if_pos hj])
end
end Go.Proofs.YtmgjcjacoegocaaDoor.Ar
