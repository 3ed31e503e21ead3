/-
  A table as plain data: what holds after any calls (bounds, times), Send with the eviction.
-/
import Derived.Test.YtmgjcjacoegocaaDoorArTick0
namespace Go.Proofs.YtmgjcjacoegocaaDoor.Ar
set_option maxRecDepth 100000
open Go.RowKit Go.Proofs.YtmgjcjacoegocaaDoor.Wire
/-- a full table makes room -/
def roomA (A : AL) : AL := if 16 ≤ A.length then A.filter (fun x => decide (x.1 ≠ vicA A)) else A
def sendF (c : Tc) (A : AL) (now to_ : Int) (s : ByteArray) : AL × Int × List Am × Int :=
  if uniB to_ = false ∨ to_ = c.own ∨ 1024 < s.size then (A, 0, [], 50)
  else match look A to_ with
    | some (.res mac since _) => (upd A to_ (.res mac since now), mac, [], 0)
    | some (.inc held sent first last) => (upd A to_ (.inc (last4 (held ++ [s])) sent first last), 0, [], 0)
    | none => (roomA A ++ [(to_, .inc [s] 1 now now)], 0, [req c to_], 0)
theorem sendF_room {c : Tc} {A : AL} {now to_ : Int} {s : ByteArray} (h : A.length < 16) : sendF c A now to_ s = sendA c A now to_ s := by
  unfold sendF sendA roomA
  rw [if_neg (show ¬ 16 ≤ A.length by omega)]
  rfl
theorem sendF_some {c : Tc} {A : AL} {now to_ : Int} {s : ByteArray} (h : look A to_ ≠ none) : sendF c A now to_ s = sendA c A now to_ s := by
  unfold sendF sendA
  cases hl : look A to_ with
  | none => exact absurd hl h
  | some v => cases v <;> rfl
/-- the eviction's choice is an address of the table -/
theorem vic_step {s : Int × Int × Bool} {x : Int × Ev} : (vicStep s x).1 = s.1 ∧ (vicStep s x) = s ∨ (vicStep s x).1 = x.1 := by
  obtain ⟨k, v⟩ := x
  unfold vicStep
  cases v with
  | inc held sent first last => dsimp only; split <;> simp
  | res mac since used => dsimp only; split <;> simp
theorem vic_first {x : Int × Ev} : (vicStep (0, 0, false) x).1 = x.1 := by
  obtain ⟨k, v⟩ := x
  unfold vicStep
  cases v <;> simp
theorem vic_fold_mem : ∀ (l : AL) (s : Int × Int × Bool), (l.foldl vicStep s).1 = s.1 ∨ (l.foldl vicStep s).1 ∈ l.map (·.1)
  | [], s => .inl rfl
  | x :: l, s => by
    rw [List.foldl_cons]
    rcases vic_fold_mem l (vicStep s x) with h | h
    · rcases vic_step (s := s) (x := x) with ⟨h2, -⟩ | h2
      · exact .inl (h.trans h2)
      · exact .inr (by rw [h, h2]; simp)
    · exact .inr (by simp at h ⊢; exact .inr h)
theorem ord_ne {A : AL} (h : A ≠ []) : ordA A ≠ [] := by
  intro e
  have := ord_map A
  rw [e] at this
  have h2 : ((A.map (·.1)).mergeSort leI).length = A.length := by rw [List.length_mergeSort, List.length_map]
  rw [← this] at h2
  simp at h2
  exact h (List.eq_nil_of_length_eq_zero h2.symm)
theorem vic_mem {A : AL} (h : A ≠ []) : vicA A ∈ A.map (·.1) := by
  have hm : ∀ k, k ∈ (ordA A).map (·.1) → k ∈ A.map (·.1) := fun k hk => by
    rw [ord_map] at hk; exact (List.mergeSort_perm _ _).mem_iff.1 hk
  unfold vicA
  cases ho : ordA A with
  | nil => exact absurd ho (ord_ne h)
  | cons x l =>
    rw [ho] at hm
    rw [List.foldl_cons]
    rcases vic_fold_mem l (vicStep (0, 0, false) x) with h1 | h1
    · rw [h1, vic_first]; exact hm _ (by simp)
    · exact hm _ (by simp at h1 ⊢; exact .inr h1)
/-- what one entry keeps at a time -/
def EvI (now : Int) : Ev → Prop
  | .inc held sent first last => (1 ≤ held.length ∧ held.length ≤ 4) ∧ 1 ≤ sent ∧ sent ≤ 3 ∧ 0 ≤ first ∧ 0 ≤ last ∧ last ≤ now ∧ first ≤ now
  | .res _ since used => 0 ≤ since ∧ since ≤ now ∧ 0 ≤ used ∧ used ≤ now
structure Inv (A : AL) (now : Int) : Prop where
  nod : (A.map (·.1)).Nodup
  len : A.length ≤ 16
  key : ∀ x ∈ A, 1 ≤ x.1 ∧ x.1 < 4294967295
  ev : ∀ x ∈ A, EvI now x.2
theorem Inv.nil (now : Int) : Inv [] now := ⟨List.nodup_nil, Nat.zero_le _, fun _ h => (nomatch h), fun _ h => (nomatch h)⟩
theorem EvI.mono {now now' : Int} {v : Ev} (h : EvI now v) (hn : now ≤ now') : EvI now' v := by
  cases v with
  | inc held sent first last => unfold EvI at *; omega
  | res mac since used => unfold EvI at *; omega
theorem Inv.mono {A : AL} {now now' : Int} (h : Inv A now) (hn : now ≤ now') : Inv A now' := ⟨h.nod, h.len, h.key, fun x hx => (h.ev x hx).mono hn⟩
theorem upd_keys (A : AL) (k : Int) (v : Ev) : (upd A k v).map (·.1) = A.map (·.1) := by
  unfold upd
  rw [List.map_map]
  apply List.map_congr_left
  intro x _
  dsimp only [Function.comp_def]
  split
  · rename_i h; exact h.symm
  · rfl
theorem upd_len (A : AL) (k : Int) (v : Ev) : (upd A k v).length = A.length := by unfold upd; rw [List.length_map]
theorem mem_upd {A : AL} {k : Int} {v : Ev} {x : Int × Ev} (h : x ∈ upd A k v) : x = (k, v) ∨ x ∈ A := by
  unfold upd at h
  obtain ⟨y, hy, rfl⟩ := List.mem_map.1 h
  split
  · exact .inl rfl
  · exact .inr hy
theorem Inv.upd {A : AL} {now : Int} (h : Inv A now) {k : Int} {v : Ev} (hk : k ∈ A.map (·.1)) (hv : EvI now v) : Inv (upd A k v) now := by
  refine ⟨by rw [upd_keys]; exact h.nod, by rw [upd_len]; exact h.len, fun x hx => ?_, fun x hx => ?_⟩
  · rcases mem_upd hx with rfl | hx
    · obtain ⟨y, hy, rfl⟩ := List.mem_map.1 hk; exact h.key y hy
    · exact h.key x hx
  · rcases mem_upd hx with rfl | hx
    · exact hv
    · exact h.ev x hx
theorem look_key {A : AL} {k : Int} {v : Ev} (h : look A k = some v) : k ∈ A.map (·.1) := List.mem_map.2 ⟨_, look_mem h, rfl⟩
theorem look_nokey {A : AL} {k : Int} (h : look A k = none) : k ∉ A.map (·.1) := fun hk => by
  obtain ⟨x, hx, rfl⟩ := List.mem_map.1 hk
  unfold look at h
  rw [Option.map_eq_none_iff, List.find?_eq_none] at h
  have := h x hx
  simp at this
theorem room_sub (A : AL) : (roomA A).Sublist A := by
  unfold roomA
  split
  · exact List.filter_sublist
  · exact List.Sublist.refl _
theorem room_len {A : AL} (h : A.length ≤ 16) : (roomA A).length < 16 := by
  unfold roomA
  split
  · rename_i h16
    have hne : A ≠ [] := fun e => by rw [e] at h16; simp at h16
    obtain ⟨x, hx, hk⟩ := List.mem_map.1 (vic_mem hne)
    have : (A.filter fun x => decide (x.1 ≠ vicA A)).length < A.length := by
      refine Nat.lt_of_le_of_ne (List.length_filter_le _ _) (fun e => ?_)
      rw [List.length_filter_eq_length_iff] at e
      have := e x hx
      simp at this
      exact this hk
    omega
  · omega
theorem last4_len (l : List ByteArray) (s : ByteArray) (h : l.length ≤ 4) : 1 ≤ (last4 (l ++ [s])).length ∧ (last4 (l ++ [s])).length ≤ 4 := by
  unfold last4
  split
  · rename_i h4
    rw [List.length_append] at h4
    rw [List.length_drop, List.length_append]; simp at h4 ⊢; omega
  · rename_i h4
    rw [List.length_append] at h4 ⊢
    simp at h4 ⊢; omega
theorem Inv.send {A : AL} {now : Int} (h : Inv A now) (h0 : 0 ≤ now) (c : Tc) (to_ : Int) (s : ByteArray) : Inv (sendF c A now to_ s).1 now := by
  unfold sendF
  by_cases hb : uniB to_ = false ∨ to_ = c.own ∨ 1024 < s.size
  · rw [if_pos hb]; exact h
  · rw [if_neg hb]
    cases hl : look A to_ with
    | none =>
      dsimp only
      have hu : uniB to_ = true := by cases q : uniB to_ <;> simp_all
      unfold uniB at hu
      have hu := of_decide_eq_true hu
      have hn := look_nokey hl
      have hs := room_sub A
      refine ⟨?_, ?_, fun x hx => ?_, fun x hx => ?_⟩
      · rw [List.map_append, List.nodup_append]
        refine ⟨h.nod.sublist (hs.map _), by simp, fun a ha b hb => ?_⟩
        simp at hb; subst hb; rintro rfl
        exact hn ((hs.map _).subset ha)
      · rw [List.length_append]; have := room_len h.len; simp; omega
      · rcases List.mem_append.1 hx with hx | hx
        · exact h.key x (hs.subset hx)
        · simp at hx; subst hx; exact hu
      · rcases List.mem_append.1 hx with hx | hx
        · exact h.ev x (hs.subset hx)
        · simp at hx; subst hx; unfold EvI; simp; omega
    | some v =>
      have hk := look_key hl
      have hv := h.ev _ (look_mem hl)
      cases v with
      | inc held sent first last =>
        unfold EvI at hv
        exact h.upd hk (by unfold EvI; exact ⟨last4_len _ _ hv.1.2, hv.2⟩)
      | res mac since used =>
        unfold EvI at hv
        exact h.upd hk (by unfold EvI; omega)
theorem Inv.recv {A : AL} {now : Int} (h : Inv A now) (h0 : 0 ≤ now) (c : Tc) (X : Am) : Inv (recvA c A now X).2.1 now := by
  unfold recvA
  split
  · exact h
  split
  · split <;> exact h
  split
  · exact h
  cases hl : look A X.f with
  | none => exact h
  | some v =>
    cases v with
    | inc held sent first last => exact h.upd (look_key hl) (by unfold EvI; omega)
    | res mac since used => exact h
theorem tick_mem {A : AL} {now : Int} {y : Int × Ev} (h : y ∈ A.filterMap (tick1 now)) : ∃ x ∈ A, tick1 now x = some y := List.mem_filterMap.1 h
theorem tick_keys (A : AL) (now : Int) : ((A.filterMap (tick1 now)).map (·.1)).Sublist (A.map (·.1)) := by
  induction A with
  | nil => exact List.Sublist.refl _
  | cons x A ih =>
    rw [List.filterMap_cons]
    cases ht : tick1 now x with
    | none => exact List.Sublist.cons _ ih
    | some y => rw [List.map_cons, List.map_cons, tick1_key ht]; exact List.Sublist.cons_cons _ ih
theorem tick1_ev {now : Int} {x y : Int × Ev} (h : tick1 now x = some y) (hx : EvI now x.2) (h0 : 0 ≤ now) : EvI now y.2 := by
  obtain ⟨k, v⟩ := x
  unfold tick1 at h
  cases v with
  | inc held sent first last =>
    dsimp only at h hx
    unfold EvI at hx
    split at h
    · split at h
      · cases h; unfold EvI; dsimp only; omega
      · cases h
    · cases h; unfold EvI; exact hx
  | res mac since used =>
    dsimp only at h
    split at h
    · cases h
    · cases h; exact hx
theorem Inv.tick {A : AL} {now : Int} (h : Inv A now) (h0 : 0 ≤ now) (c : Tc) : Inv (tickA c A now).1 now := by
  have hs := tick_keys A now
  refine ⟨h.nod.sublist hs, ?_, fun y hy => ?_, fun y hy => ?_⟩
  · have := hs.length_le; rw [List.length_map, List.length_map] at this; exact Nat.le_trans this h.len
  · obtain ⟨x, hx, ht⟩ := tick_mem hy
    rw [tick1_key ht]; exact h.key x hx
  · obtain ⟨x, hx, ht⟩ := tick_mem hy
    exact tick1_ev ht (h.ev x hx) h0
theorem Inv.sum {A : AL} {now : Int} (h : Inv A now) : 0 ≤ sumA A ∧ sumA A ≤ 4 * A.length := by
  have h2 := h.ev
  clear h
  unfold sumA
  induction A with
  | nil => simp
  | cons x A ih =>
    have i1 := ih (fun y hy => h2 y (List.mem_cons_of_mem _ hy))
    have hx := h2 x (List.mem_cons_self ..)
    obtain ⟨k, v⟩ := x
    rw [List.map_cons, List.foldr_cons, List.length_cons]
    cases v with
    | inc held sent first last =>
      unfold EvI at hx
      have e : Ev.n (k, Ev.inc held sent first last).2 = (held.length : Int) := rfl
      rw [e]; omega
    | res mac since used =>
      have e : Ev.n (k, Ev.res mac since used).2 = 0 := rfl
      rw [e]; omega
/-- deadlines after a tick at t, N the time of the last call -/
def DL (A : AL) (t N : Int) : Prop := ∀ x ∈ A, match x.2 with | .inc _ sent _ last => last + 10 * (4 - sent) ≤ N + 30 ∧ t < last + 10 | .res .. => True
theorem aged_iff {now at_ span : Int} : agedB now at_ span = true ↔ at_ ≤ now ∧ span ≤ now - at_ := by unfold agedB; exact decide_eq_true_iff
theorem DL.start {A : AL} {N : Int} (h : Inv A N) (c : Tc) : DL (tickA c A N).1 N N := by
  intro y hy
  obtain ⟨⟨k, v⟩, hx, ht⟩ := tick_mem hy
  have he := h.ev _ hx
  unfold tick1 at ht
  cases v with
  | inc held sent first last =>
    dsimp only at ht he
    unfold EvI at he
    by_cases ha : agedB N last 10 = true
    · rw [if_pos ha] at ht
      rw [aged_iff] at ha
      split at ht
      · cases ht; dsimp only; omega
      · cases ht
    · rw [if_neg ha] at ht
      rw [aged_iff] at ha
      cases ht; dsimp only; omega
  | res mac since used =>
    dsimp only at ht
    split at ht
    · cases ht
    · cases ht; trivial
theorem DL.step {A : AL} {t N : Int} (h : DL A t N) (c : Tc) : DL (tickA c A (t + 1)).1 (t + 1) N := by
  intro y hy
  obtain ⟨⟨k, v⟩, hx, ht⟩ := tick_mem hy
  have he := h _ hx
  unfold tick1 at ht
  cases v with
  | inc held sent first last =>
    dsimp only at ht he
    by_cases ha : agedB (t + 1) last 10 = true
    · rw [if_pos ha] at ht
      rw [aged_iff] at ha
      split at ht
      · cases ht; dsimp only; omega
      · cases ht
    · rw [if_neg ha] at ht
      rw [aged_iff] at ha
      cases ht; dsimp only; omega
  | res mac since used =>
    dsimp only at ht
    split at ht
    · cases ht
    · cases ht; trivial
theorem DL.done {A : AL} {N now : Int} (h : DL A (N + 30) N) (hi : Inv A now) : sumA A = 0 := by
  have h2 : ∀ x ∈ A, x.2.n = 0 := fun x hx => by
    have a := h x hx; have b := hi.ev x hx
    obtain ⟨k, v⟩ := x
    cases v with
    | inc held sent first last => dsimp only at a b; unfold EvI at b; omega
    | res mac since used => rfl
  clear h hi
  unfold sumA
  induction A with
  | nil => rfl
  | cons x A ih =>
    rw [List.map_cons, List.foldr_cons, h2 x (List.mem_cons_self ..), ih (fun y hy => h2 y (List.mem_cons_of_mem _ hy))]; rfl
/-- the entry in use, and the choice of the eviction -/
structure VicI (a now : Int) (p : AL) (s : Int × Int × Bool) : Prop where
  none_ : p = [] → s = (0, 0, false)
  some_ : p ≠ [] → s.1 ≠ 0
  eq_ : s.1 = a → s.2 = (now, false) ∧ ∀ y ∈ p, y.1 = a
  when_ : s.2.2 = false → s.2.1 ≤ now
theorem VicI.step {a now : Int} {p : AL} {s : Int × Int × Bool} (h : VicI a now p s) (_ : 0 ≤ now) (x : Int × Ev) (hk : x.1 ≠ 0) (hx : x.1 = a → ∃ m si, x.2 = .res m si now) (hx2 : x.1 ≠ a → ∀ m si u, x.2 = .res m si u → u < now) : VicI a now (p ++ [x]) (vicStep s x) := by
  obtain ⟨ch, wn, hf⟩ := s
  obtain ⟨k, v⟩ := x
  obtain ⟨h1, h2, h3, h4⟩ := h
  dsimp only at h1 h2 h3 h4 hk hx hx2
  by_cases hp : p = []
  · subst hp
    have h1 := h1 rfl
    cases h1
    cases v with
    | inc held sent first last =>
      have e : vicStep (0, 0, false) (k, .inc held sent first last) = (k, first, true) := by unfold vicStep; simp
      rw [e]
      refine ⟨fun q => by simp at q, fun _ => hk, fun q => ?_, fun q => by cases q⟩
      obtain ⟨m, si, q2⟩ := hx q; cases q2
    | res mac since used =>
      have e : vicStep (0, 0, false) (k, .res mac since used) = (k, used, false) := by unfold vicStep; simp
      rw [e]
      refine ⟨fun q => by simp at q, fun _ => hk, fun q => ?_, fun _ => ?_⟩
      · obtain ⟨m, si, q2⟩ := hx q; cases q2; exact ⟨rfl, fun y hy => by simp at hy; subst hy; exact q⟩
      · dsimp only
        by_cases q : k = a
        · obtain ⟨m, si, q2⟩ := hx q; cases q2; exact Int.le_refl _
        · have := hx2 q _ _ _ rfl; omega
  · have h2 := h2 hp
    have hne : p ++ [(k, v)] ≠ [] := by simp
    cases v with
    | inc held sent first last =>
      have hka : k ≠ a := fun q => by obtain ⟨m, si, q2⟩ := hx q; cases q2
      unfold vicStep
      dsimp only
      by_cases hc : hf = false ∨ first < wn
      · rw [if_pos hc]
        exact ⟨fun q => absurd q hne, fun _ => hk, fun q => absurd q hka, fun q => by cases q⟩
      · rw [if_neg hc]
        refine ⟨fun q => absurd q hne, fun _ => h2, fun q => ?_, h4⟩
        obtain ⟨q1, q2⟩ := h3 q
        exact absurd (.inl (congrArg (·.2) q1)) hc
    | res mac since used =>
      unfold vicStep
      dsimp only
      by_cases hc : ch = 0 ∨ hf = false ∧ used < wn
      · rw [if_pos hc]
        rcases hc with hc | ⟨hc, hu⟩
        · exact absurd hc h2
        have h5 := h4 hc
        refine ⟨fun q => absurd q hne, fun _ => hk, fun q => ?_, fun _ => by dsimp only; omega⟩
        obtain ⟨m, si, q2⟩ := hx q; cases q2; omega
      · rw [if_neg hc]
        refine ⟨fun q => absurd q hne, fun _ => h2, fun q => ?_, h4⟩
        obtain ⟨q1, q2⟩ := h3 q
        refine ⟨q1, fun y hy => ?_⟩
        rcases List.mem_append.1 hy with hy | hy
        · exact q2 y hy
        · simp at hy; subst hy
          dsimp only
          apply Classical.byContradiction
          intro hka
          have h6 := hx2 hka _ _ _ rfl
          cases q1
          exact hc (.inr ⟨rfl, h6⟩)
theorem VicI.fold {a now : Int} (hn : 0 ≤ now) : ∀ (l p : AL) (s : Int × Int × Bool), VicI a now p s → (∀ x ∈ l, x.1 ≠ 0 ∧ (x.1 = a → ∃ m si, x.2 = .res m si now) ∧ (x.1 ≠ a → ∀ m si u, x.2 = .res m si u → u < now)) → VicI a now (p ++ l) (l.foldl vicStep s)
  | [], p, s, h, _ => by simpa using h
  | x :: l, p, s, h, hl => by
    have h1 := hl x (List.mem_cons_self ..)
    have := VicI.fold hn l (p ++ [x]) _ (h.step hn x h1.1 h1.2.1 h1.2.2) (fun y hy => hl y (List.mem_cons_of_mem _ hy))
    simpa using this
theorem ord_mem {A : AL} {x : Int × Ev} (h : x ∈ ordA A) : x ∈ A := by
  unfold ordA at h
  obtain ⟨k, hk, h2⟩ := List.mem_filterMap.1 h
  obtain ⟨v, hv, rfl⟩ := Option.map_eq_some_iff.1 h2
  exact look_mem hv
/-- an entry used just now is not chosen, where another one is there that was not -/
theorem vic_not {A : AL} {a now : Int} (hn : 0 ≤ now) (hnod : (A.map (·.1)).Nodup) (h2 : 2 ≤ A.length) (hl : ∀ x ∈ A, x.1 ≠ 0 ∧ (x.1 = a → ∃ m si, x.2 = .res m si now) ∧ (x.1 ≠ a → ∀ m si u, x.2 = .res m si u → u < now)) : vicA A ≠ a := by
  intro e
  have hf := VicI.fold hn (ordA A) [] (0, 0, false) ⟨fun _ => rfl, fun q => absurd rfl q, fun q => ⟨by
    dsimp only at q
    subst q
    exfalso
    obtain ⟨x, hx⟩ : ∃ x, x ∈ A := by
      cases A with
      | nil => simp at h2
      | cons x A => exact ⟨x, List.mem_cons_self ..⟩
    have h1 : A ≠ [] := by rintro rfl; simp at h2
    have := vic_mem h1
    rw [e] at this
    obtain ⟨y, hy, q⟩ := List.mem_map.1 this
    exact (hl y hy).1 q, fun _ h => nomatch h⟩, fun _ => hn⟩ (fun x hx => hl x (ord_mem hx))
  obtain ⟨-, h4⟩ := hf.eq_ e
  have hm : ∀ k ∈ A.map (·.1), k = a := fun k hk => by
    have : k ∈ (ordA A).map (·.1) := by rw [ord_map]; exact (List.mergeSort_perm _ _).mem_iff.2 hk
    obtain ⟨y, hy, rfl⟩ := List.mem_map.1 this
    exact h4 y (by simpa using hy)
  match A, h2, hnod, hm with
  | x :: y :: A, _, hnod, hm =>
    simp only [List.map_cons, List.nodup_cons] at hnod
    have e1 := hm x.1 (by simp)
    have e2 := hm y.1 (by simp)
    exact hnod.1 (by rw [e1, ← e2]; simp)
end Go.Proofs.YtmgjcjacoegocaaDoor.Ar
