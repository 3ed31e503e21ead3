/-
  The table of incomplete datagrams in memory.
-/
import Derived.Test.YtmeldgnjgogacaaReStore
import Derived.Test.YtmeldgnjgogacaaReRow
namespace Go.Proofs.Ytmeldgnjgogacaa.Re
set_option maxRecDepth 100000
open Go.RowKit Go.Proofs.Ytmeldgnjgogacaa.Wire
open Go.Proofs.Ytmeldgnjgogacaa.Ip (Pk)

/-- an entry of the table, with the blocks in which it lies -/
structure En where
  k : Ky
  H : Hf
  hb : Nat
  Ab : Option Addr
  cb : Nat
  Ah : Option Addr
  ch : Nat
def En.own (e : En) (k : Nat) : Prop := In3 e.hb e.Ab e.Ah k
def En.ok (W : World) (e : En) : Prop := HalfB W e.hb e.H e.Ab e.cb e.Ah e.ch ∧ Dis e.hb e.Ab e.Ah
def En.ptr (e : En) : Value := .pointer (some ⟨e.hb, 0, none⟩)
/-- the blocks of a table -/
def TOwn (T m : Nat) (O : Option Addr) (L : List En) (k : Nat) : Prop := k = T ∨ k = m ∨ (∃ a, O = some a ∧ a.block = k) ∨ ∃ e ∈ L, e.own k
/-- the list of keys in memory -/
def Ord (W : World) (O : Option Addr) (n c : Nat) (ks : List Ky) : Prop := (O = none ∧ n = 0 ∧ c = 0 ∧ ks = []) ∨ ∃ g, O = some ⟨g, 0, none⟩ ∧ RowP W g c 79 (fun i k => ks[i]? = some k) ∧ n = ks.length ∧ n ≤ c ∧ c ≤ maxLen
structure Tab (W : World) (T m : Nat) (es : Array MapEntry) (clk : Nat) (O : Option Addr) (oc : Nat) (L : List En) : Prop where
  tab : W.heap[T]? = some (.cells #[.map (some m), .slice O L.length oc] 72)
  map : W.heap[m]? = some (.map es clk)
  ents : Ents es (L.map (·.k)) (L.map En.ptr)
  nod : (L.map (·.k)).Nodup
  stamp : (∀ x ∈ es.toList, x.born < clk) ∧ (es.toList.map (·.born)).Nodup
  ord : Ord W O L.length oc (L.map (·.k))
  half : ∀ e ∈ L, e.ok W
  tm : T ≠ m
  og : ∀ a, O = some a → a.block ≠ T ∧ a.block ≠ m
  eo : ∀ e ∈ L, ∀ k, e.own k → k ≠ T ∧ k ≠ m ∧ ∀ a, O = some a → a.block ≠ k
  ee : ∀ (i j : Nat) (e f : En), L[i]? = some e → L[j]? = some f → i ≠ j → ∀ k, e.own k → ¬ f.own k
theorem HalfB.kept {W W' : World} {hb : Nat} {H : Hf} {Ab Ah : Option Addr} {cb ch : Nat} (h : HalfB W hb H Ab cb Ah ch) (hk : ∀ k, In3 hb Ab Ah k → W'.heap[k]? = W.heap[k]?) : HalfB W' hb H Ab cb Ah ch :=
  ⟨(hk hb (.inl rfl)).trans h.1, h.2.1.kept (fun a e => hk _ (.inr (.inl ⟨a, e, rfl⟩))), h.2.2.kept (fun a e => hk _ (.inr (.inr ⟨a, e, rfl⟩)))⟩
theorem HalfB.lt {W : World} {hb : Nat} {H : Hf} {Ab Ah : Option Addr} {cb ch : Nat} (h : HalfB W hb H Ab cb Ah ch) {k : Nat} (hk : In3 hb Ab Ah k) : k < W.heap.size := by
  rcases hk with rfl | ⟨a, rfl, rfl⟩ | ⟨a, rfl, rfl⟩
  · exact blk_lt h.1
  · exact h.2.1.lt.1
  · exact h.2.2.lt.1
theorem Ord.kept {W W' : World} {O : Option Addr} {n c : Nat} {ks : List Ky} (h : Ord W O n c ks) (hk : ∀ a, O = some a → W'.heap[a.block]? = W.heap[a.block]?) : Ord W' O n c ks := by
  rcases h with h | ⟨g, rfl, ⟨cur, h1, h2⟩, h3⟩
  · exact .inl h
  · exact .inr ⟨g, rfl, ⟨cur, (hk _ rfl).trans h1, h2⟩, h3⟩
theorem Ord.lt {W : World} {O : Option Addr} {n c : Nat} {ks : List Ky} (h : Ord W O n c ks) {a : Addr} (e : O = some a) : a.block < W.heap.size := by
  rcases h with h | ⟨g, rfl, hr, -⟩
  · rw [h.1] at e; cases e
  · cases e; exact hr.lt
section
variable {W W' : World} {T m : Nat} {es : Array MapEntry} {clk : Nat} {O : Option Addr} {oc : Nat} {L : List En}
theorem Tab.kept (h : Tab W T m es clk O oc L) (hk : ∀ k, TOwn T m O L k → W'.heap[k]? = W.heap[k]?) : Tab W' T m es clk O oc L :=
  ⟨(hk T (.inl rfl)).trans h.tab, (hk m (.inr (.inl rfl))).trans h.map, h.ents, h.nod, h.stamp, h.ord.kept (fun a e => hk _ (.inr (.inr (.inl ⟨a, e, rfl⟩)))),
    fun e he => ⟨(h.half e he).1.kept (fun k q => hk k (.inr (.inr (.inr ⟨e, he, q⟩)))), (h.half e he).2⟩, h.tm, h.og, h.eo, h.ee⟩
theorem Tab.lt (h : Tab W T m es clk O oc L) {k : Nat} (hk : TOwn T m O L k) : k < W.heap.size := by
  rcases hk with rfl | rfl | ⟨a, e, rfl⟩ | ⟨e, he, q⟩
  · exact blk_lt h.tab
  · exact blk_lt h.map
  · exact h.ord.lt e
  · exact (h.half e he).1.lt q
theorem Tab.below (h : Tab W T m es clk O oc L) (hb : Below W.heap.size W W') : Tab W' T m es clk O oc L := h.kept (fun k q => hb.block k (h.lt q))
theorem Tab.chg {S : Nat → Prop} (h : Tab W T m es clk O oc L) (hc : Chg S W W') (hs : ∀ k, TOwn T m O L k → ¬ S k) : Tab W' T m es clk O oc L := h.kept (fun k q => hc.block k (h.lt q) (hs k q))
/-- the half of an entry is changed -/
theorem Tab.setHalf {S : Nat → Prop} (h : Tab W T m es clk O oc L) {i : Nat} {e e' : En} (hi : L[i]? = some e) (hk : e'.k = e.k) (hb : e'.hb = e.hb) (hs : HSt S W W' e'.hb e'.H e'.Ab e'.cb e'.Ah e'.ch) (hS : ∀ k, S k → e.own k) :
    Tab W' T m es clk O oc (L.set i e') ∧ (∀ k, TOwn T m O (L.set i e') k → TOwn T m O L k ∨ W.heap.size ≤ k) ∧ Chg (TOwn T m O L) W W' := by
  have hmem : e ∈ L := List.mem_of_getElem? hi
  have hil : i < L.length := (List.getElem?_eq_some_iff.1 hi).1
  have hown : ∀ k, e'.own k → e.own k ∨ W.heap.size ≤ k := fun k q => (hs.own k q).imp (hS k) id
  have keep : ∀ k, k < W.heap.size → ¬ e.own k → W'.heap[k]? = W.heap[k]? := fun k hl hn => hs.chg.block k hl (fun q => hn (hS k q))
  have hT := h.eo e hmem
  have hkeys : (L.set i e').map (·.k) = L.map (·.k) := by
    rw [List.map_set, hk]
    obtain ⟨hl, rfl⟩ := List.getElem?_eq_some_iff.1 hi
    have : (L.map (·.k))[i]'(by simpa using hl) = L[i].k := by simp
    rw [← this]; exact List.set_getElem_self _
  have hptr : (L.set i e').map En.ptr = L.map En.ptr := by
    rw [List.map_set]
    obtain ⟨hl, rfl⟩ := List.getElem?_eq_some_iff.1 hi
    have e1 : e'.ptr = L[i].ptr := by unfold En.ptr; rw [hb]
    rw [e1]
    have : (L.map En.ptr)[i]'(by simpa using hl) = L[i].ptr := by simp
    rw [← this]; exact List.set_getElem_self _
  have hmem' : ∀ f, f ∈ L.set i e' → f = e' ∨ ∃ j, j ≠ i ∧ L[j]? = some f := fun f hf => by
    obtain ⟨j, hj⟩ := List.getElem?_of_mem hf
    rw [List.getElem?_set] at hj
    by_cases hij : i = j
    · rw [if_pos hij] at hj
      split at hj
      · exact .inl (Option.some.inj hj).symm
      · omega
    · rw [if_neg hij] at hj
      exact .inr ⟨j, fun q => hij q.symm, hj⟩
  refine ⟨⟨?_, ?_, by rw [hkeys, hptr]; exact h.ents, by rw [hkeys]; exact h.nod, h.stamp, ?_, ?_, h.tm, h.og, ?_, ?_⟩, ?_, ?_⟩
  · rw [List.length_set, keep T (h.lt (.inl rfl)) (fun q => (hT T q).1 rfl)]; exact h.tab
  · rw [keep m (h.lt (.inr (.inl rfl))) (fun q => (hT m q).2.1 rfl)]; exact h.map
  · rw [List.length_set, hkeys]
    exact h.ord.kept (fun a q => keep _ (h.ord.lt q) (fun q2 => (hT _ q2).2.2 a q rfl))
  · intro f hf
    rcases hmem' f hf with rfl | ⟨j, hj, hfj⟩
    · exact ⟨hs.half, hs.dis⟩
    · have hok := h.half f (List.mem_of_getElem? hfj)
      exact ⟨hok.1.kept (fun k q => keep k (hok.1.lt q) (h.ee j i f e hfj hi hj k q)), hok.2⟩
  · intro f hf k q
    rcases hmem' f hf with rfl | ⟨j, hj, hfj⟩
    · rcases hown k q with q' | q'
      · exact hT k q'
      · have h1 := h.lt (.inl rfl : TOwn T m O L T); have h2 := h.lt (.inr (.inl rfl) : TOwn T m O L m)
        exact ⟨by omega, by omega, fun a ea => by have := h.ord.lt ea; omega⟩
    · exact h.eo f (List.mem_of_getElem? hfj) k q
  · intro a b f g hf hg hab k qf qg
    have hlow : ∀ (j : Nat) (x : En), L[j]? = some x → x.own k → k < W.heap.size := fun j x hx q => (h.half x (List.mem_of_getElem? hx)).1.lt q
    rw [List.getElem?_set] at hf hg
    by_cases h1 : i = a
    · rw [if_pos h1] at hf
      rw [if_neg (by omega)] at hg
      split at hf
      · obtain rfl := Option.some.inj hf
        rcases hown k qf with q' | q'
        · exact h.ee i b e g hi hg (by omega) k q' qg
        · have := hlow b g hg qg; omega
      · omega
    · rw [if_neg h1] at hf
      by_cases h2 : i = b
      · rw [if_pos h2] at hg
        split at hg
        · obtain rfl := Option.some.inj hg
          rcases hown k qg with q' | q'
          · exact h.ee a i f e hf hi (by omega) k qf q'
          · have := hlow a f hf qf; omega
        · omega
      · rw [if_neg h2] at hg
        exact h.ee a b f g hf hg hab k qf qg
  · rintro k (q | q | q | ⟨f, hf, q⟩)
    · exact .inl (.inl q)
    · exact .inl (.inr (.inl q))
    · exact .inl (.inr (.inr (.inl q)))
    · rcases hmem' f hf with rfl | ⟨j, hj, hfj⟩
      · exact (hown k q).imp (fun q' => .inr (.inr (.inr ⟨e, hmem, q'⟩))) id
      · exact .inl (.inr (.inr (.inr ⟨f, List.mem_of_getElem? hfj, q⟩)))
  · exact hs.chg.mono (fun k q => .inr (.inr (.inr ⟨e, hmem, hS k q⟩)))
end
end Go.Proofs.Ytmeldgnjgogacaa.Re
