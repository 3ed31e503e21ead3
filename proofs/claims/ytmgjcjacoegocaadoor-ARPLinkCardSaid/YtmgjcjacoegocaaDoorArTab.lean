/-
  The ARP table in memory.
-/
import Derived.Test.YtmgjcjacoegocaaDoorArMap
import Derived.Test.YtmgjcjacoegocaaDoorArRow
namespace Go.Proofs.YtmgjcjacoegocaaDoor.Ar
set_option maxRecDepth 100000
open Go.RowKit Go.Proofs.YtmgjcjacoegocaaDoor.Wire

/-- blocks of S alone may change -/
structure Chg (S : Nat → Prop) (w w' : World) : Prop where
  os : w'.os = w.os
  tape : w'.tape = w.tape
  output : w'.output = w.output
  size : w.heap.size ≤ w'.heap.size
  block : ∀ k, k < w.heap.size → ¬ S k → w'.heap[k]? = w.heap[k]?
theorem Chg.refl (S : Nat → Prop) (w : World) : Chg S w w := ⟨rfl, rfl, rfl, Nat.le_refl _, fun _ _ _ => rfl⟩
theorem Chg.trans {S S' : Nat → Prop} {a b c : World} (h : Chg S a b) (k : Chg S' b c) (hs : ∀ q, S' q → S q ∨ a.heap.size ≤ q) : Chg S a c :=
  ⟨k.os.trans h.os, k.tape.trans h.tape, k.output.trans h.output, Nat.le_trans h.size k.size, fun q hq hn => (k.block q (Nat.lt_of_lt_of_le hq h.size) (fun r => (hs q r).elim hn (by omega))).trans (h.block q hq hn)⟩
theorem Chg.mono {S S' : Nat → Prop} {a b : World} (h : Chg S a b) (hs : ∀ q, S q → S' q) : Chg S' a b := ⟨h.os, h.tape, h.output, h.size, fun q hq hn => h.block q hq (fun r => hn (hs q r))⟩
theorem Chg.of_below {S : Nat → Prop} {a b : World} (h : Below a.heap.size a b) : Chg S a b := ⟨h.os, h.tape, h.output, h.size, fun q hq _ => h.block q hq⟩
theorem Chg.below {S : Nat → Prop} {a b c : World} (h : Chg S a b) (k : Below b.heap.size b c) : Chg S a c := h.trans (S' := fun _ => False) (Chg.of_below k) (fun _ q => q.elim)
theorem Chg.grown {S : Nat → Prop} {a b : World} {row : Option Nat} (h : a.grownBy b row) (hs : ∀ q, row = some q → S q) : Chg S a b := ⟨h.os, h.tape, h.output, h.size, fun q hq hn => h.block q hq (fun e => hn (hs q e.symm))⟩
theorem Chg.setCell {S : Nat → Prop} {a b : World} (h : Chg S a b) {p : Addr} (hp : S p.block ∨ a.heap.size ≤ p.block) (u : Value) : Chg S a (b.setCell p u) :=
  h.trans (S' := fun q => q = p.block) (Chg.grown (row := some p.block) (only_set (World.grownBy.refl b (some p.block)) (.inl rfl) u) (fun q e => by injection e with e; exact e.symm)) (fun q e => by subst e; exact hp)
theorem Chg.setObj {S : Nat → Prop} {a b : World} (h : Chg S a b) {r : Nat} (hr : S r ∨ a.heap.size ≤ r) (o : Obj) : Chg S a { b with heap := b.heap.setIfInBounds r o } :=
  h.trans (S' := fun q => q = r) ⟨rfl, rfl, rfl, by simp, fun q _ hn => by
    show (b.heap.setIfInBounds r o)[q]? = _
    rw [Array.getElem?_setIfInBounds_ne (fun e => hn e.symm)]⟩ (fun q e => by subst e; exact hr)

/-- what an entry says: incomplete (pending packets, number of requests, first, last), or resolved (MAC, since, used) -/
inductive Ev where
  | inc (held : List ByteArray) (sent first last : Int)
  | res (mac since used : Int)
/-- an entry with the blocks in which it lies -/
structure En where
  k : Int
  v : Ev
  eb : Nat
  Hb : Option Addr
  hc : Nat
abbrev strC (s : ByteArray) : List Value := [.string s]
abbrev TRow (W : World) (lo : Nat) (A : Option Addr) (c : Nat) (l : List ByteArray) : Prop := SRow 9 1 strC W lo A c l
def En.own (e : En) (q : Nat) : Prop := q = e.eb ∨ ∃ a, e.Hb = some a ∧ a.block = q
def En.okV (W : World) (eb : Nat) (Hb : Option Addr) (hc : Nat) : Ev → Prop
  | .inc held sent first last => W.heap[eb]? = some (.cells #[.slice Hb held.length hc, .int .i64 sent, .int .i64 first, .int .i64 last] 135) ∧ TRow W 0 Hb hc held ∧ (∀ a, Hb = some a → a.block ≠ eb) ∧ held.length ≤ 4 ∧ (0 ≤ sent ∧ sent ≤ 3) ∧ In64 first ∧ In64 last ∧ (∀ s ∈ held, s.size ≤ 1024)
  | .res mac since used => W.heap[eb]? = some (.cells #[.int .i64 mac, .int .i64 since, .int .i64 used] 128) ∧ Hb = none ∧ In64 since ∧ In64 used
def En.ok (W : World) (e : En) : Prop := En.okV W e.eb e.Hb e.hc e.v
def Ev.ty : Ev → TypeId
  | .inc .. => 125
  | .res .. => 126
def En.val (e : En) : Value := .iface e.v.ty (.pointer (some ⟨e.eb, 0, none⟩))
/-- the table's own fields -/
structure Tc where
  own : Int
  mac : Int
  ann : Bool
  at_ : Int
def TOwn (T : Nat) (m : Option Nat) (L : List En) (q : Nat) : Prop := q = T ∨ m = some q ∨ ∃ e ∈ L, e.own q
def Disj (e f : En) : Prop := ∀ q, e.own q → ¬ f.own q
theorem Disj.symm {e f : En} (h : Disj e f) : Disj f e := fun q a b => h q b a
structure Tab (W : World) (T : Nat) (m : Option Nat) (es : Array MapEntry) (clk : Nat) (c : Tc) (L : List En) : Prop where
  tab : W.heap[T]? = some (.cells #[.int .i64 c.own, .int .i64 c.mac, .map m, .bool c.ann, .int .i64 c.at_] 102)
  map : (m = none ∧ L = []) ∨ ∃ r, m = some r ∧ W.heap[r]? = some (.map es clk) ∧ r ≠ T
  ents : m ≠ none → Ents es (L.map (·.k)) (L.map En.val)
  nod : (L.map (·.k)).Nodup
  stamp : m ≠ none → (∀ x ∈ es.toList, x.born < clk) ∧ (es.toList.map (·.born)).Nodup
  ok : ∀ e ∈ L, e.ok W
  eo : ∀ e ∈ L, ∀ q, e.own q → q ≠ T ∧ m ≠ some q
  ee : L.Pairwise Disj
theorem okV_kept {W W' : World} {eb : Nat} {Hb : Option Addr} {hc : Nat} {v : Ev} (h : En.okV W eb Hb hc v) (hk : ∀ q, (q = eb ∨ ∃ a, Hb = some a ∧ a.block = q) → W'.heap[q]? = W.heap[q]?) : En.okV W' eb Hb hc v := by
  cases v with
  | inc held sent first last => exact ⟨(hk eb (.inl rfl)).trans h.1, h.2.1.kept (fun a e => hk _ (.inr ⟨a, e, rfl⟩)), h.2.2⟩
  | res mac since used => exact ⟨(hk eb (.inl rfl)).trans h.1, h.2⟩
theorem En.ok_kept {W W' : World} {e : En} (h : e.ok W) (hk : ∀ q, e.own q → W'.heap[q]? = W.heap[q]?) : e.ok W' := okV_kept h hk
theorem En.ok_lt {W : World} {e : En} (h : e.ok W) {q : Nat} (hq : e.own q) : q < W.heap.size := by
  obtain ⟨k, v, eb, Hb, hc⟩ := e
  cases v with
  | inc held sent first last =>
    rcases hq with rfl | ⟨a, e, rfl⟩
    · exact blk_lt h.1
    · exact (h.2.1.bk e).2
  | res mac since used =>
    rcases hq with rfl | ⟨a, e, rfl⟩
    · exact blk_lt h.1
    · have h2 := h.2.1; dsimp only at h2 e; rw [h2] at e; cases e
section
variable {W W' : World} {T : Nat} {m : Option Nat} {es : Array MapEntry} {clk : Nat} {c : Tc} {L : List En}
theorem Tab.kept (h : Tab W T m es clk c L) (hk : ∀ q, TOwn T m L q → W'.heap[q]? = W.heap[q]?) : Tab W' T m es clk c L :=
  ⟨(hk T (.inl rfl)).trans h.tab, h.map.imp id (fun ⟨r, h1, h2, h3⟩ => ⟨r, h1, (hk r (.inr (.inl h1))).trans h2, h3⟩), h.ents, h.nod, h.stamp, fun e he => En.ok_kept (h.ok e he) (fun q hq => hk q (.inr (.inr ⟨e, he, hq⟩))), h.eo, h.ee⟩
theorem Tab.lt (h : Tab W T m es clk c L) {q : Nat} (hq : TOwn T m L q) : q < W.heap.size := by
  rcases hq with rfl | hm | ⟨e, he, hq⟩
  · exact blk_lt h.tab
  · rcases h.map with ⟨h1, -⟩ | ⟨r, h1, h2, -⟩
    · rw [h1] at hm; cases hm
    · rw [h1] at hm; cases hm; exact blk_lt h2
  · exact En.ok_lt (h.ok e he) hq
theorem Tab.below (h : Tab W T m es clk c L) (hb : Below W.heap.size W W') : Tab W' T m es clk c L := h.kept (fun q hq => hb.block q (h.lt hq))
theorem Tab.chg {S : Nat → Prop} (h : Tab W T m es clk c L) (hc : Chg S W W') (hs : ∀ q, TOwn T m L q → ¬ S q) : Tab W' T m es clk c L := h.kept (fun q hq => hc.block q (h.lt hq) (hs q hq))
theorem Tab.drew (h : Tab W T m es clk c L) : Tab W.drew T m es clk c L := h.kept (fun _ _ => rfl)
theorem keys_at {e : En} {j : Nat} (hj : L[j]? = some e) : (L.map (·.k))[j]? = some e.k ∧ (L.map En.val)[j]? = some e.val := by simp [hj]
/-- the look-up of an address that has no entry -/
theorem Tab.look_none (h : Tab W T m es clk c L) (k : Int) (hk : k ∉ L.map (·.k)) : (Instr.lookup 100 (.map m) (.int .i64 k) false).run Tryd.prog W = .ok .nilIface W := by
  rcases h.map with ⟨h1, -⟩ | ⟨r, h1, h2, -⟩
  · subst h1; exact run_look_nil k
  · have he := h.ents (by rw [h1]; simp)
    subst h1; exact run_look_none k h2 he hk
theorem Tab.look_some (h : Tab W T m es clk c L) {e : En} {j : Nat} (hj : L[j]? = some e) : (Instr.lookup 100 (.map m) (.int .i64 e.k) false).run Tryd.prog W = .ok e.val W := by
  rcases h.map with ⟨-, h1⟩ | ⟨r, h1, h2, -⟩
  · subst h1; simp at hj
  · have he := h.ents (by rw [h1]; simp)
    subst h1; exact run_look_some e.k h2 he h.nod (keys_at hj).1 (keys_at hj).2
theorem pairwise_set {L : List En} (h : L.Pairwise Disj) {i : Nat} {e' : En} (hd : ∀ j f, L[j]? = some f → j ≠ i → Disj f e') : (L.set i e').Pairwise Disj := by
  rw [List.pairwise_iff_getElem] at h ⊢
  intro a b ha hb hab
  simp only [List.length_set] at ha hb
  rw [List.getElem_set, List.getElem_set]
  by_cases h1 : i = a
  · rw [if_pos h1, if_neg (by omega)]
    exact (hd b _ (List.getElem?_eq_getElem hb) (by omega)).symm
  · rw [if_neg h1]
    by_cases h2 : i = b
    · rw [if_pos h2]; exact hd a _ (List.getElem?_eq_getElem ha) (by omega)
    · rw [if_neg h2]; exact h a b ha hb hab
theorem disj_at (h : L.Pairwise Disj) {i j : Nat} {e f : En} (hi : L[i]? = some e) (hj : L[j]? = some f) (hne : i ≠ j) : Disj e f := by
  rw [List.pairwise_iff_getElem] at h
  obtain ⟨hi', rfl⟩ := List.getElem?_eq_some_iff.1 hi
  obtain ⟨hj', rfl⟩ := List.getElem?_eq_some_iff.1 hj
  rcases Nat.lt_or_ge i j with q | q
  · exact h i j hi' hj' q
  · exact (h j i hj' hi' (by omega)).symm
theorem mem_set {L : List En} {i : Nat} {e' f : En} (h : f ∈ L.set i e') : f = e' ∨ ∃ j, j ≠ i ∧ L[j]? = some f := by
  obtain ⟨j, hj⟩ := List.getElem?_of_mem h
  rw [List.getElem?_set] at hj
  by_cases hij : i = j
  · rw [if_pos hij] at hj
    split at hj
    · exact .inl (Option.some.inj hj).symm
    · cases hj
  · rw [if_neg hij] at hj
    exact .inr ⟨j, fun q => hij q.symm, hj⟩
theorem keys_set {i : Nat} {e e' : En} (hi : L[i]? = some e) (hk : e'.k = e.k) : (L.set i e').map (·.k) = L.map (·.k) := by
  rw [List.map_set, hk]
  obtain ⟨hl, rfl⟩ := List.getElem?_eq_some_iff.1 hi
  have : (L.map (·.k))[i]'(by simpa using hl) = L[i].k := by simp
  rw [← this]; exact List.set_getElem_self _
/-- an entry is changed where it lies (own blocks S, or new ones) -/
theorem Tab.setE {S : Nat → Prop} (h : Tab W T m es clk c L) {i : Nat} {e e' : En} (hi : L[i]? = some e) (hk : e'.k = e.k) (hv : e'.val = e.val) (hok : e'.ok W') (hc : Chg S W W') (hS : ∀ q, S q → e.own q) (hown : ∀ q, e'.own q → e.own q ∨ W.heap.size ≤ q) :
    Tab W' T m es clk c (L.set i e') ∧ (∀ q, TOwn T m (L.set i e') q → TOwn T m L q ∨ W.heap.size ≤ q) := by
  have hmem : e ∈ L := List.mem_of_getElem? hi
  have hT := h.eo e hmem
  have hkeys := keys_set hi hk
  have hvals : (L.set i e').map En.val = L.map En.val := by
    rw [List.map_set, hv]
    obtain ⟨hl, rfl⟩ := List.getElem?_eq_some_iff.1 hi
    have : (L.map En.val)[i]'(by simpa using hl) = L[i].val := by simp
    rw [← this]; exact List.set_getElem_self _
  have keep : ∀ q, q < W.heap.size → ¬ e.own q → W'.heap[q]? = W.heap[q]? := fun q hl hn => hc.block q hl (fun r => hn (hS q r))
  have hil : i < L.length := (List.getElem?_eq_some_iff.1 hi).1
  refine ⟨⟨?_, ?_, by rw [hkeys, hvals]; exact h.ents, by rw [hkeys]; exact h.nod, h.stamp, ?_, ?_, ?_⟩, ?_⟩
  · rw [keep T (h.lt (.inl rfl)) (fun q => (hT T q).1 rfl)]; exact h.tab
  · rcases h.map with ⟨-, h1⟩ | ⟨r, h1, h2, h3⟩
    · subst h1; simp at hi
    · exact .inr ⟨r, h1, by rw [keep r (h.lt (.inr (.inl h1))) (fun q => (hT r q).2 h1)]; exact h2, h3⟩
  · intro f hf
    rcases mem_set hf with rfl | ⟨j, hj, hfj⟩
    · exact hok
    · have hok := h.ok f (List.mem_of_getElem? hfj)
      exact En.ok_kept hok (fun q hq => keep q (En.ok_lt hok hq) (disj_at h.ee hfj hi hj q hq))
  · intro f hf q hq
    rcases mem_set hf with rfl | ⟨j, hj, hfj⟩
    · rcases hown q hq with r | r
      · exact hT q r
      · exact ⟨fun s => by have := h.lt (.inl rfl : TOwn T m L T); omega, fun s => by have := h.lt (.inr (.inl s) : TOwn T m L q); omega⟩
    · exact h.eo f (List.mem_of_getElem? hfj) q hq
  · refine pairwise_set h.ee (fun j f hj hne q hq hq' => ?_)
    rcases hown q hq' with r | r
    · exact disj_at h.ee hj hi hne q hq r
    · have := En.ok_lt (h.ok f (List.mem_of_getElem? hj)) hq; omega
  · rintro q (r | r | ⟨f, hf, r⟩)
    · exact .inl (.inl r)
    · exact .inl (.inr (.inl r))
    · rcases mem_set hf with rfl | ⟨j, hj, hfj⟩
      · exact (hown q r).imp (fun s => .inr (.inr ⟨e, hmem, s⟩)) id
      · exact .inl (.inr (.inr ⟨f, List.mem_of_getElem? hfj, r⟩))
/-- a new entry -/
theorem Tab.push {r : Nat} (h : Tab W T (some r) es clk c L) {e : En} (hk : e.k ∉ L.map (·.k)) (hok : e.ok W) (hnew : ∀ q, e.own q → ¬ TOwn T (some r) L q) :
    Tab { W with heap := W.heap.setIfInBounds r (.map (es.push { key := .int .i64 e.k, val := e.val, born := clk }) (clk + 1)) } T (some r) (es.push { key := .int .i64 e.k, val := e.val, born := clk }) (clk + 1) c (L ++ [e]) := by
  obtain ⟨hr, hrT⟩ : W.heap[r]? = some (.map es clk) ∧ r ≠ T := by
    rcases h.map with ⟨q, -⟩ | ⟨r', q, h2, h3⟩
    · cases q
    · cases q; exact ⟨h2, h3⟩
  have hs := h.stamp (by simp)
  refine ⟨block_setObj h.tab (fun q => hrT q.symm), .inr ⟨r, rfl, block_setObj_same hr, hrT⟩, fun _ => ?_, ?_, fun _ => ⟨?_, ?_⟩, ?_, ?_, ?_⟩
  · have := (h.ents (by simp)).push e.k e.val clk
    simpa using this
  · rw [List.map_append, List.nodup_append]
    refine ⟨h.nod, by simp, fun a ha b hb => ?_⟩
    simp at hb; subst hb; rintro rfl; exact hk ha
  · intro x hx
    rw [Array.toList_push, List.mem_append] at hx
    rcases hx with hx | hx
    · have := hs.1 x hx; omega
    · simp at hx; subst hx; simp
  · rw [Array.toList_push, List.map_append, List.nodup_append]
    refine ⟨hs.2, by simp, fun a ha b hb => ?_⟩
    obtain ⟨x, hx, rfl⟩ := List.mem_map.1 ha
    have := hs.1 x hx
    simp at hb; subst hb; omega
  · intro f hf
    have hof : ∀ q, f.own q → q ≠ r := by
      intro q hq e1; subst e1
      rcases List.mem_append.1 hf with hf | hf
      · exact (h.eo f hf q hq).2 rfl
      · simp at hf; subst hf; exact hnew q hq (.inr (.inl rfl))
    have hfo : f.ok W := by
      rcases List.mem_append.1 hf with hf | hf
      · exact h.ok f hf
      · simp at hf; subst hf; exact hok
    exact En.ok_kept hfo (fun q hq => by
      show (W.heap.setIfInBounds r _)[q]? = _
      rw [Array.getElem?_setIfInBounds_ne (fun e => hof q hq e.symm)])
  · intro f hf q hq
    rcases List.mem_append.1 hf with hf | hf
    · exact h.eo f hf q hq
    · simp at hf; subst hf
      exact ⟨fun e => hnew q hq (.inl e), fun e => hnew q hq (.inr (.inl e))⟩
  · rw [List.pairwise_append]
    refine ⟨h.ee, List.pairwise_singleton _ _, fun a ha b hb q hq hq' => ?_⟩
    simp at hb; subst hb
    exact hnew q hq' (.inr (.inr ⟨a, ha, hq⟩))
/-- the value of an address that is there is set anew: another block -/
theorem Tab.upd {r : Nat} (h : Tab W T (some r) es clk c L) {i : Nat} {e e' : En} (hi : L[i]? = some e) (hk : e'.k = e.k) (hok : e'.ok W) (hnew : ∀ q, e'.own q → ¬ TOwn T (some r) L q) :
    Tab { W with heap := W.heap.setIfInBounds r (.map (es.modify i fun x => { x with key := .int .i64 e.k, val := e'.val }) clk) } T (some r) (es.modify i fun x => { x with key := .int .i64 e.k, val := e'.val }) clk c (L.set i e') := by
  obtain ⟨hr, hrT⟩ : W.heap[r]? = some (.map es clk) ∧ r ≠ T := by
    rcases h.map with ⟨q, -⟩ | ⟨r', q, h2, h3⟩
    · cases q
    · cases q; exact ⟨h2, h3⟩
  have hs := h.stamp (by simp)
  have hborn : (es.modify i fun x => { x with key := .int .i64 e.k, val := e'.val }).toList.map (·.born) = es.toList.map (·.born) := by
    rw [Array.toList_modify]
    apply List.ext_getElem?
    intro j
    simp only [List.getElem?_map, List.getElem?_modify]
    by_cases q : i = j
    · simp [q]; cases es[j]? <;> rfl
    · simp [q]
  refine ⟨block_setObj h.tab (fun q => hrT q.symm), .inr ⟨r, rfl, block_setObj_same hr, hrT⟩, fun _ => ?_, ?_, fun _ => ⟨?_, ?_⟩, ?_, ?_, ?_⟩
  · rw [keys_set hi hk, List.map_set]
    exact (h.ents (by simp)).upd (keys_at hi).1 _
  · rw [keys_set hi hk]; exact h.nod
  · intro x hx
    have : x.born ∈ es.toList.map (·.born) := by rw [← hborn]; exact List.mem_map_of_mem hx
    obtain ⟨y, hy, e1⟩ := List.mem_map.1 this
    rw [← e1]; exact hs.1 y hy
  · rw [hborn]; exact hs.2
  · intro f hf
    have hfo : f.ok W ∧ ∀ q, f.own q → q ≠ r := by
      rcases mem_set hf with rfl | ⟨j, hj, hfj⟩
      · exact ⟨hok, fun q hq e1 => hnew q hq (.inr (.inl (by rw [e1])))⟩
      · exact ⟨h.ok f (List.mem_of_getElem? hfj), fun q hq e1 => (h.eo f (List.mem_of_getElem? hfj) q hq).2 (by rw [e1])⟩
    exact En.ok_kept hfo.1 (fun q hq => by
      show (W.heap.setIfInBounds r _)[q]? = _
      rw [Array.getElem?_setIfInBounds_ne (fun e => hfo.2 q hq e.symm)])
  · intro f hf q hq
    rcases mem_set hf with rfl | ⟨j, hj, hfj⟩
    · exact ⟨fun e => hnew q hq (.inl e), fun e => hnew q hq (.inr (.inl e))⟩
    · exact h.eo f (List.mem_of_getElem? hfj) q hq
  · exact pairwise_set h.ee (fun j f hj _ q hq hq' => hnew q hq' (.inr (.inr ⟨f, List.mem_of_getElem? hj, hq⟩)))
/-- an entry is struck out -/
theorem Tab.del {r : Nat} (h : Tab W T (some r) es clk c L) (i : Nat) :
    Tab { W with heap := W.heap.setIfInBounds r (.map (es.eraseIdxIfInBounds i) clk) } T (some r) (es.eraseIdxIfInBounds i) clk c (L.eraseIdx i) := by
  obtain ⟨hr, hrT⟩ : W.heap[r]? = some (.map es clk) ∧ r ≠ T := by
    rcases h.map with ⟨q, -⟩ | ⟨r', q, h2, h3⟩
    · cases q
    · cases q; exact ⟨h2, h3⟩
  have hs := h.stamp (by simp)
  have e0 : (es.eraseIdxIfInBounds i).toList = es.toList.eraseIdx i := by simp
  have hsub : (L.eraseIdx i).Sublist L := List.eraseIdx_sublist _ _
  refine ⟨block_setObj h.tab (fun q => hrT q.symm), .inr ⟨r, rfl, block_setObj_same hr, hrT⟩, fun _ => ?_, ?_, fun _ => ⟨?_, ?_⟩, ?_, ?_, ?_⟩
  · rw [map_erase, map_erase]; exact (h.ents (by simp)).erase i
  · exact h.nod.sublist (hsub.map _)
  · intro x hx
    rw [e0] at hx
    exact hs.1 x (List.mem_of_mem_eraseIdx hx)
  · rw [e0]
    exact hs.2.sublist ((List.eraseIdx_sublist _ _).map _)
  · intro f hf
    have hf := hsub.subset hf
    exact En.ok_kept (h.ok f hf) (fun q hq => by
      show (W.heap.setIfInBounds r _)[q]? = _
      rw [Array.getElem?_setIfInBounds_ne (fun e => (h.eo f hf q hq).2 (by rw [e]))])
  · exact fun f hf => h.eo f (hsub.subset hf)
  · exact h.ee.sublist hsub
/-- the table's own fields, or its map, are set anew -/
theorem Tab.own (h : Tab W T m es clk c L) {c' : Tc} (hc : Chg (fun q => q = T) W W') (ht : W'.heap[T]? = some (.cells #[.int .i64 c'.own, .int .i64 c'.mac, .map m, .bool c'.ann, .int .i64 c'.at_] 102)) : Tab W' T m es clk c' L := by
  have keep : ∀ q, q < W.heap.size → q ≠ T → W'.heap[q]? = W.heap[q]? := fun q hl hn => hc.block q hl hn
  refine ⟨ht, h.map.imp id (fun ⟨r, h1, h2, h3⟩ => ⟨r, h1, (keep r (blk_lt h2) h3).trans h2, h3⟩), h.ents, h.nod, h.stamp, fun e he => ?_, h.eo, h.ee⟩
  exact En.ok_kept (h.ok e he) (fun q hq => keep q (En.ok_lt (h.ok e he) hq) (h.eo e he q hq).1)
end
end Go.Proofs.YtmgjcjacoegocaaDoor.Ar
