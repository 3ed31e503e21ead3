/-
  What the law ARPDeliversOnce keeps, as plain data: the packets sent to an address and not returned are those that its entry holds.
-/
import Derived.Test.YtjdoemmfemogmaaArUse
namespace Go.Proofs.Ytjdoemmfemogmaa.Ar
set_option maxRecDepth 100000
open Go.RowKit Go.Proofs.Ytjdoemmfemogmaa.Wire
/-- the packets that wait for an address -/
def heldOf (A : AL) (a : Int) : List ByteArray := match look A a with | some (.inc held _ _ _) => held | _ => []
/-- those of a list that go to an address -/
def remK (out : List Hp) (a : Int) : List ByteArray := (out.filter fun p => decide (p.to_ = a)).map (·.s)
def MacOk : Ev → Prop
  | .inc .. => True
  | .res mac _ _ => 1 ≤ mac
structure Inv8 (A : AL) (now : Int) : Prop where
  inv : Inv A now
  key : ∀ x ∈ A, 11 ≤ x.1 ∧ x.1 ≤ 25
  mac : ∀ x ∈ A, MacOk x.2
theorem len_le : ∀ (n : Nat) (l : List Int) (a : Int), l.Nodup → (∀ x ∈ l, a ≤ x ∧ x < a + n) → l.length ≤ n
  | 0, l, a, _, h => by
    cases l with
    | nil => simp
    | cons x l => have := h x (List.mem_cons_self ..); omega
  | n + 1, l, a, hn, h => by
    by_cases hm : a + n ∈ l
    · have h1 := len_le n (l.erase (a + n)) a (hn.erase _) (fun x hx => by
        have h2 := (List.Nodup.mem_erase_iff hn).1 hx
        have := h x h2.2
        omega)
      rw [List.length_erase_of_mem hm] at h1
      omega
    · have := len_le n l a hn (fun x hx => by
        have h2 := h x hx
        have h3 : x ≠ a + n := fun e => hm (e ▸ hx)
        omega)
      omega
theorem Inv8.len {A : AL} {now : Int} (h : Inv8 A now) : A.length ≤ 15 := by
  have := len_le 15 (A.map (·.1)) 11 h.inv.nod (fun x hx => by
    obtain ⟨y, hy, rfl⟩ := List.mem_map.1 hx
    have := h.key y hy
    omega)
  rw [List.length_map] at this; exact this
theorem Inv8.nil (now : Int) : Inv8 [] now := ⟨Inv.nil now, fun x hx => by simp at hx, fun x hx => by simp at hx⟩
theorem Inv8.mono {A : AL} {now now' : Int} (h : Inv8 A now) (hn : now ≤ now') : Inv8 A now' := ⟨h.inv.mono hn, h.key, h.mac⟩
theorem look_app_none {A B : AL} {a : Int} (h : look A a = none) : look (A ++ B) a = look B a := by
  unfold look at *
  rw [List.find?_append]
  rw [Option.map_eq_none_iff] at h
  rw [h]; rfl
theorem held_upd_ne {A : AL} {k a : Int} {v : Ev} (h : a ≠ k) : heldOf (upd A k v) a = heldOf A a := by unfold heldOf; rw [look_upd_ne h]
/-- what a call of Send gives, and what is held behind it -/
theorem send8 {A : AL} {now : Int} (h : Inv8 A now) (h0 : 0 ≤ now) (c : Tc) (hc : c.own = 10) (a : Int) (ha : 11 ≤ a ∧ a ≤ 25) (s : ByteArray) (hs : s.size ≤ 1024) (hl : (heldOf A a).length < 4) :
    ∃ A' mac said, sendF c A now a s = (A', mac, said, 0) ∧ Inv8 A' now ∧
      ((1 ≤ mac ∧ said = [] ∧ ∀ b, heldOf A' b = heldOf A b) ∨
       (mac = 0 ∧ (heldOf A a = [] ∧ said = [req c a] ∨ heldOf A a ≠ [] ∧ said = []) ∧ heldOf A' a = heldOf A a ++ [s] ∧ ∀ b, b ≠ a → heldOf A' b = heldOf A b)) := by
  have hi := h.inv.send h0 c a s
  have hlen := h.len
  have hb : ¬ (uniB a = false ∨ a = c.own ∨ 1024 < s.size) := by
    rintro (q | q | q)
    · unfold uniB at q; rw [decide_eq_false_iff_not] at q; omega
    · omega
    · omega
  unfold sendF at hi ⊢
  rw [if_neg hb] at hi ⊢
  cases hk : look A a with
  | none =>
    rw [hk] at hi
    dsimp only at hi ⊢
    have hr : roomA A = A := by unfold roomA; rw [if_neg (by omega)]
    rw [hr] at hi ⊢
    have hh : heldOf A a = [] := by unfold heldOf; rw [hk]
    refine ⟨_, _, _, rfl, ⟨hi, fun x hx => ?_, fun x hx => ?_⟩, .inr ⟨rfl, .inl ⟨hh, rfl⟩, ?_, fun b hb => ?_⟩⟩
    · rcases List.mem_append.1 hx with hx | hx
      · exact h.key x hx
      · simp at hx; subst hx; exact ha
    · rcases List.mem_append.1 hx with hx | hx
      · exact h.mac x hx
      · simp at hx; subst hx; trivial
    · rw [hh]
      unfold heldOf
      rw [look_app_none hk]
      simp [look]
    · unfold heldOf
      have : look (A ++ [(a, Ev.inc [s] 1 now now)]) b = look A b := by
        cases hb2 : look A b with
        | none => rw [look_app_none hb2]; have : ¬ a = b := fun e => hb e.symm; simp [look, this]
        | some v => exact look_app hb2
      rw [this]
  | some v =>
    rw [hk] at hi
    have hmem := look_mem hk
    cases v with
    | inc held sent first last =>
      dsimp only at hi ⊢
      have hh : heldOf A a = held := by unfold heldOf; rw [hk]
      have he := h.inv.ev _ hmem
      unfold EvI at he
      have h4 : last4 (held ++ [s]) = held ++ [s] := by
        unfold last4
        rw [hh] at hl
        rw [if_neg (by rw [List.length_append]; simp; omega)]
      rw [h4] at hi ⊢
      refine ⟨_, _, _, rfl, ⟨hi, fun x hx => ?_, fun x hx => ?_⟩, .inr ⟨rfl, .inr ⟨by rw [hh]; intro e; rw [e] at he; simp at he, rfl⟩, ?_, fun b hb => held_upd_ne hb⟩⟩
      · rcases mem_upd hx with rfl | hx
        · exact ha
        · exact h.key x hx
      · rcases mem_upd hx with rfl | hx
        · trivial
        · exact h.mac x hx
      · rw [hh]
        unfold heldOf
        rw [look_upd_same (by rw [hk]; simp)]
    | res mac since used =>
      dsimp only at hi ⊢
      refine ⟨_, _, _, rfl, ⟨hi, fun x hx => ?_, fun x hx => ?_⟩, .inl ⟨h.mac _ hmem, rfl, fun b => ?_⟩⟩
      · rcases mem_upd hx with rfl | hx
        · exact ha
        · exact h.key x hx
      · rcases mem_upd hx with rfl | hx
        · have := h.mac _ hmem; exact this
        · exact h.mac x hx
      · by_cases e : b = a
        · subst e
          unfold heldOf
          rw [look_upd_same (by rw [hk]; simp), hk]
        · exact held_upd_ne e
/-- what a call gives out, and what is held behind it -/
structure Gives (A A' : AL) (out : List Hp) : Prop where
  held : ∀ a, heldOf A a = remK out a ++ heldOf A' a
  known : ∀ p ∈ out, 11 ≤ p.to_ ∧ p.to_ ≤ 25 ∧ knownV (look A' p.to_) = .tuple #[.int .i64 p.mac, .bool (decide (0 < p.mac))]
theorem remK_nil (a : Int) : remK [] a = [] := rfl
theorem remK_map_same (l : List ByteArray) (a mac : Int) : remK (l.map fun s => (⟨a, mac, s⟩ : Hp)) a = l := by
  unfold remK
  induction l with
  | nil => rfl
  | cons s l ih =>
    simp at ih ⊢
    exact ih
theorem remK_map_ne (l : List ByteArray) {a b mac : Int} (h : ¬ a = b) : remK (l.map fun s => (⟨a, mac, s⟩ : Hp)) b = [] := by
  unfold remK
  induction l with
  | nil => rfl
  | cons s l ih => simp [h] at ih ⊢
theorem recv8 {A : AL} {now : Int} (h : Inv8 A now) (h0 : 0 ≤ now) (c : Tc) (X : Am) : Inv8 (recvA c A now X).2.1 now ∧ Gives A (recvA c A now X).2.1 (recvA c A now X).2.2.2 := by
  have hi := h.inv.recv h0 c X
  have same : Inv8 A now ∧ Gives A A [] := ⟨h, fun a => by rw [remK_nil]; rfl, fun p hp => by simp at hp⟩
  unfold recvA at hi ⊢
  by_cases hok : X.ok
  case neg => rw [if_pos hok]; exact same
  rw [if_neg (fun q => q hok)] at hi ⊢
  by_cases h1 : X.f = c.own
  · rw [if_pos h1]
    split <;> exact same
  rw [if_neg h1] at hi ⊢
  by_cases h2 : X.t ≠ c.own
  · rw [if_pos h2]; exact same
  rw [if_neg h2] at hi ⊢
  cases hk : look A X.f with
  | none => exact same
  | some v =>
    cases v with
    | res mac since used => exact same
    | inc held sent first last =>
      rw [hk] at hi
      dsimp only at hi ⊢
      have hmem := look_mem hk
      have hX : 1 ≤ X.fm := by unfold Am.ok at hok; omega
      have hkey := h.key _ hmem
      refine ⟨⟨hi, fun x hx => ?_, fun x hx => ?_⟩, fun a => ?_, fun p hp => ?_⟩
      · rcases mem_upd hx with rfl | hx
        · exact hkey
        · exact h.key x hx
      · rcases mem_upd hx with rfl | hx
        · exact hX
        · exact h.mac x hx
      · by_cases e : a = X.f
        · subst e
          rw [remK_map_same]
          unfold heldOf
          rw [look_upd_same (by rw [hk]; simp), hk]; simp
        · rw [remK_map_ne _ (fun q => e q.symm), held_upd_ne e]; rfl
      · obtain ⟨s, -, rfl⟩ := List.mem_map.1 hp
        refine ⟨hkey.1, hkey.2, ?_⟩
        dsimp only
        rw [look_upd_same (by rw [hk]; simp)]
        have : decide (0 < X.fm) = true := decide_eq_true (by omega)
        rw [this]; rfl
theorem remK_app (l l' : List Hp) (a : Int) : remK (l ++ l') a = remK l a ++ remK l' a := by unfold remK; rw [List.filter_append, List.map_append]
/-- of many entries' packets, those of one address -/
theorem remK_tick (now : Int) (a : Int) : ∀ (l : AL), (l.map (·.1)).Nodup → remK (l.flatMap (tickH now)) a = match look l a with | some v => (tickH now (a, v)).map (·.s) | none => []
  | [], _ => rfl
  | x :: l, hn => by
    rw [List.map_cons, List.nodup_cons] at hn
    rw [List.flatMap_cons, remK_app, remK_tick now a l hn.2]
    obtain ⟨k, v⟩ := x
    have hone : ∀ b, remK (tickH now (k, v)) b = if k = b then (tickH now (k, v)).map (·.s) else [] := fun b => by
      unfold tickH
      cases v with
      | res mac since used => simp [remK]
      | inc held sent first last =>
        dsimp only
        split
        · by_cases e : k = b
          · subst e; rw [remK_map_same, if_pos rfl, List.map_map]; simp [Function.comp_def]
          · rw [remK_map_ne _ e, if_neg e]
        · simp [remK]
    rw [hone]
    have hlk : look ((k, v) :: l) a = if k = a then some v else look l a := by
      unfold look
      rw [List.find?_cons]
      by_cases e : k = a <;> simp [e]
    rw [hlk]
    by_cases e : k = a
    · subst e
      rw [if_pos rfl, if_pos rfl]
      have hno : look l k = none := by
        cases hl : look l k with
        | none => rfl
        | some u => exact absurd (look_key hl) hn.1
      rw [hno]; simp
    · rw [if_neg e, if_neg e]; rfl
theorem look_ord {A : AL} (hn : (A.map (·.1)).Nodup) (a : Int) : look (ordA A) a = look A a := by
  have hn2 : ((ordA A).map (·.1)).Nodup := by rw [ord_map]; exact (List.mergeSort_perm _ _).nodup_iff.2 hn
  cases h : look A a with
  | none =>
    cases h2 : look (ordA A) a with
    | none => rfl
    | some v => have := look_of_mem hn (ord_mem (look_mem h2)); rw [h] at this; cases this
  | some v =>
    have hk : a ∈ (ordA A).map (·.1) := by rw [ord_map]; exact (List.mergeSort_perm _ _).mem_iff.2 (look_key h)
    obtain ⟨x, hx, e⟩ := List.mem_map.1 hk
    have := look_uniq hn h (ord_mem hx) e
    subst this
    exact look_of_mem hn2 hx
theorem look_tick {A : AL} (hn : (A.map (·.1)).Nodup) (now a : Int) : look (A.filterMap (tick1 now)) a = (look A a).bind fun v => (tick1 now (a, v)).map (·.2) := by
  have hn2 : ((A.filterMap (tick1 now)).map (·.1)).Nodup := hn.sublist (tick_keys A now)
  cases h : look A a with
  | none =>
    cases h2 : look (A.filterMap (tick1 now)) a with
    | none => rfl
    | some v =>
      obtain ⟨x, hx, ht⟩ := tick_mem (look_mem h2)
      have := tick1_key ht
      obtain ⟨k, u⟩ := x
      dsimp only at this; subst this
      have := look_of_mem hn hx
      rw [h] at this; cases this
  | some v =>
    show _ = (tick1 now (a, v)).map (·.2)
    cases ht : tick1 now (a, v) with
    | none =>
      cases h2 : look (A.filterMap (tick1 now)) a with
      | none => rfl
      | some u =>
        obtain ⟨x, hx, ht2⟩ := tick_mem (look_mem h2)
        have hk := tick1_key ht2
        have := look_uniq hn h hx hk.symm
        subst this
        rw [ht] at ht2; cases ht2
    | some y =>
      have hk := tick1_key ht
      obtain ⟨k, u⟩ := y
      dsimp only at hk; subst hk
      exact look_of_mem hn2 (List.mem_filterMap.2 ⟨_, look_mem h, ht⟩)
theorem tick8 {A : AL} {now : Int} (h : Inv8 A now) (h0 : 0 ≤ now) (c : Tc) : Inv8 (tickA c A now).1 now ∧ Gives A (tickA c A now).1 (tickA c A now).2.2 := by
  have hi := h.inv.tick h0 c
  have hn := h.inv.nod
  unfold tickA at hi ⊢
  dsimp only at hi ⊢
  have hn3 : ((ordA A).map (·.1)).Nodup := by rw [ord_map]; exact (List.mergeSort_perm _ _).nodup_iff.2 hn
  refine ⟨⟨hi, fun y hy => ?_, fun y hy => ?_⟩, fun a => ?_, fun p hp => ?_⟩
  · obtain ⟨x, hx, ht⟩ := tick_mem hy
    rw [tick1_key ht]; exact h.key x hx
  · obtain ⟨⟨k, v⟩, hx, ht⟩ := tick_mem hy
    have hm := h.mac _ hx
    unfold tick1 at ht
    cases v with
    | inc held sent first last =>
      dsimp only at ht
      split at ht
      · split at ht
        · cases ht; trivial
        · cases ht
      · cases ht; trivial
    | res mac since used =>
      dsimp only at ht
      split at ht
      · cases ht
      · cases ht; exact hm
  · rw [remK_tick now a _ hn3, look_ord hn]
    unfold heldOf
    rw [look_tick hn]
    cases hl : look A a with
    | none => rfl
    | some v =>
      show _ = (tickH now (a, v)).map (·.s) ++ (match (tick1 now (a, v)).map (·.2) with | some (.inc held _ _ _) => held | _ => [])
      unfold tickH tick1
      cases v with
      | res mac since used =>
        dsimp only
        by_cases h1 : agedB now since 600 = true
        · rw [if_pos h1]; rfl
        · rw [if_neg h1]; rfl
      | inc held sent first last =>
        dsimp only
        by_cases h1 : agedB now last 10 = true
        · rw [if_pos h1]
          by_cases h2 : sent < 3
          · rw [if_pos h2, if_neg (fun q => q.2 h2)]; rfl
          · rw [if_neg h2, if_pos ⟨h1, h2⟩, List.map_map]; simp [Function.comp_def]
        · rw [if_neg h1, if_neg (fun q => h1 q.1)]; rfl
  · obtain ⟨⟨k, v⟩, hx, hp⟩ := List.mem_flatMap.1 hp
    have hxA := ord_mem hx
    have hkey := h.key _ hxA
    unfold tickH at hp
    cases v with
    | res mac since used => simp at hp
    | inc held sent first last =>
      dsimp only at hp
      split at hp
      · rename_i hc
        obtain ⟨s, -, rfl⟩ := List.mem_map.1 hp
        refine ⟨hkey.1, hkey.2, ?_⟩
        dsimp only
        rw [look_tick hn, look_of_mem hn hxA]
        show knownV ((tick1 now (k, .inc held sent first last)).map (·.2)) = _
        unfold tick1
        dsimp only
        rw [if_pos hc.1, if_neg hc.2]; rfl
      · simp at hp
theorem remK_cons (p : Hp) (l : List Hp) : remK (p :: l) p.to_ = p.s :: remK l p.to_ := by unfold remK; rw [List.filter_cons_of_pos (by simp)]; rfl
theorem remK_cons_ne (p : Hp) (l : List Hp) {a : Int} (h : p.to_ ≠ a) : remK (p :: l) a = remK l a := by unfold remK; rw [List.filter_cons_of_neg (by simpa using h)]
/-- how many wait, counted by addresses -/
def sum24 (A : AL) : Nat → Int
  | 0 => 0
  | n + 1 => sum24 A n + ((heldOf A (10 + (n : Int))).length : Int)
theorem heldOf_cons (x : Int × Ev) (A : AL) (hx : x.1 ∉ A.map (·.1)) (a : Int) : ((heldOf (x :: A) a).length : Int) = (if x.1 = a then x.2.n else 0) + ((heldOf A a).length : Int) := by
  obtain ⟨k, v⟩ := x
  have hlk : look ((k, v) :: A) a = if k = a then some v else look A a := by
    unfold look
    rw [List.find?_cons]
    by_cases e : k = a <;> simp [e]
  unfold heldOf
  rw [hlk]
  by_cases e : k = a
  · subst e
    have hno : look A k = none := by
      cases hl : look A k with
      | none => rfl
      | some u => exact absurd (look_key hl) hx
    rw [if_pos rfl, if_pos rfl, hno]
    cases v with
    | inc held sent first last => simp [Ev.n]
    | res mac since used => simp [Ev.n]
  · rw [if_neg e, if_neg e]; simp
theorem sum24_cons (x : Int × Ev) (A : AL) (hx : x.1 ∉ A.map (·.1)) : ∀ n : Nat, sum24 (x :: A) n = (if 10 ≤ x.1 ∧ x.1 < 10 + n then x.2.n else 0) + sum24 A n
  | 0 => by
    have : ¬ (10 ≤ x.1 ∧ x.1 < 10 + ((0 : Nat) : Int)) := by omega
    rw [if_neg this]; rfl
  | n + 1 => by
    unfold sum24
    rw [sum24_cons x A hx n, heldOf_cons x A hx]
    by_cases h1 : 10 ≤ x.1 ∧ x.1 < 10 + (n : Int)
    · rw [if_pos h1, if_neg (by omega), if_pos (by omega)]; omega
    · rw [if_neg h1]
      by_cases h2 : x.1 = 10 + (n : Int)
      · rw [if_pos h2, if_pos (by omega)]; omega
      · rw [if_neg h2, if_neg (by omega)]; omega
theorem sum24_all : ∀ {A : AL}, (A.map (·.1)).Nodup → (∀ x ∈ A, 10 ≤ x.1 ∧ x.1 < 34) → sum24 A 24 = sumA A
  | [], _, _ => rfl
  | x :: A, hn, hk => by
    rw [List.map_cons, List.nodup_cons] at hn
    have := hk x (List.mem_cons_self ..)
    rw [sum24_cons x A hn.1, if_pos (by omega), sum24_all hn.2 (fun y hy => hk y (List.mem_cons_of_mem _ hy))]
    rfl
end Go.Proofs.Ytjdoemmfemogmaa.Ar
