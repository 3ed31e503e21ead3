/-
  The contract of (*Table).find: the key is there; the key is new and there is room.
-/
import Derived.Test.YtmeldgnjgogacaaReRem
import Derived.Deep.AppendLies
import Derived.RegionTactic
import Derived.ChangeAlike
import Derived.Deep.RegionLaw
import Derived.Deep.RegionLawGrows
namespace Go.Proofs.Ytmeldgnjgogacaa.Re
set_option maxRecDepth 100000
open Go.RowKit Go.Proofs.Ytmeldgnjgogacaa.Wire
open Go.Proofs.Ytmeldgnjgogacaa.Ip (Pk)

theorem look_some {W : World} {T m : Nat} {es : Array MapEntry} {clk : Nat} {O : Option Addr} {oc : Nat} {L : List En} (h : Tab W T m es clk O oc L) {i : Nat} {e : En} (hi : L[i]? = some e) (c : Bool) :
    (Instr.lookup 69 (.map (some m)) (.agg #[.int .i64 e.k.f, .int .i64 e.k.t, .int .i64 e.k.p, .int .i64 e.k.i]) c).run Try.prog W = .ok (if c then .tuple #[e.ptr, .bool true] else e.ptr) W := by
  have := run_lookup_ky e.k c h.map h.ents
  unfold tyM Ky.val at this
  rw [this]
  have hk : (L.map (·.k))[i]? = some e.k := by simp [hi]
  rw [at_some h.nod hk]
  simp [hi]
theorem look_none {W : World} {T m : Nat} {es : Array MapEntry} {clk : Nat} {O : Option Addr} {oc : Nat} {L : List En} (h : Tab W T m es clk O oc L) (k : Ky) (hk : k ∉ L.map (·.k)) (c : Bool) :
    (Instr.lookup 69 (.map (some m)) (.agg #[.int .i64 k.f, .int .i64 k.t, .int .i64 k.p, .int .i64 k.i]) c).run Try.prog W = .ok (if c then .tuple #[.pointer none, .bool false] else .pointer none) W := by
  have := run_lookup_ky k c h.map h.ents
  unfold tyM Ky.val at this
  rw [this, at_none hk]
  simp
set_option maxHeartbeats 4000000 in
theorem find_there (T m : Nat) (es : Array MapEntry) (clk : Nat) (O : Option Addr) (oc : Nat) (L : List En) (i : Nat) (e : En) (hi : L[i]? = some e) (now : Int) (w : World) (h : Tab w T m es clk O oc L) :
    Calls Try.prog 34 #[.pointer (some ⟨T, 0, none⟩), .agg #[.int .i64 e.k.f, .int .i64 e.k.t, .int .i64 e.k.p, .int .i64 e.k.i], .int .i64 now] w fun x w' => x = .returned (.pointer (some ⟨e.hb, 0, none⟩)) ∧ Below w.heap.size w w' := by
  have HT0 := Lib.hid h
  have HB := below_alloc (o := .cells #[.int .i64 e.k.f, .int .i64 e.k.t, .int .i64 e.k.p, .int .i64 e.k.i] 79) (below_alloc (o := .cells #[.pointer (some ⟨T, 0, none⟩)] 25) (Below.refl w.heap.size w))
  have hp := block_alloc (alloc_new w (.cells #[.pointer (some ⟨T, 0, none⟩)] 25)) (.cells #[.int .i64 e.k.f, .int .i64 e.k.t, .int .i64 e.k.p, .int .i64 e.k.i] 79)
  have hk := alloc_new' (w.alloc (.cells #[.pointer (some ⟨T, 0, none⟩)] 25)) (.cells #[.int .i64 e.k.f, .int .i64 e.k.t, .int .i64 e.k.p, .int .i64 e.k.i] 79) (w.heap.size + 1) (by simp)
  go_enter Try.func34, Try.ntmps34
  go_upto_region 1 with fail
  generalize (w.alloc (.cells #[.pointer (some ⟨T, 0, none⟩)] 25)).alloc (.cells #[.int .i64 e.k.f, .int .i64 e.k.t, .int .i64 e.k.p, .int .i64 e.k.i] 79) = w1 at *
  have HT1 := Lib.hid (HT0.out.below HB)
  have hlk := look_some (W := w1.drew) (HT1.out.kept (fun _ _ => rfl)) hi true
  unfold En.ptr at hlk
  have qt := (cell_of_block (k := 0) HT1.out.tab rfl).1
  have qp := (cell_of_box hp).1
  have qk0 := (cell_of_block (k := 0) hk rfl).1; have qk1 := (cell_of_block (k := 1) hk rfl).1; have qk2 := (cell_of_block (k := 2) hk rfl).1; have qk3 := (cell_of_block (k := 3) hk rfl).1
  have HBx := Lib.hid HB
  clear hp hk HT0 hi HB
  go_region
  go_wp2_with fail
  go_ret
  exact ⟨rfl, HBx.out.drew⟩
theorem mapEq (m : Nat) (w : World) : (binOp .eql 69 (.map (some m)) (.map none)).run Try.prog w = .ok (.bool false) w := by kernel_rfl
theorem infoKy : (Try.prog.info? 79).map (fun i => (i.zero, i.size, i.bytes)) = some (some (.agg #[.int .i64 0, .int .i64 0, .int .i64 0, .int .i64 0]), 4, 32) := by kernel_rfl
theorem enCells_at (ks : List Ky) (i r : Nat) (e : Ky) (hi : ks[i]? = some e) (hr : r < 4) : (enCells ks)[i * 4 + r]? = ([.int .i64 e.f, .int .i64 e.t, .int .i64 e.p, .int .i64 e.i] : List Value)[r]? := by
  obtain ⟨h0, h1, h2, h3⟩ := enCells_get ks i e hi
  match r, hr with
  | 0, _ => exact h0
  | 1, _ => exact h1
  | 2, _ => exact h2
  | 3, _ => exact h3
theorem ord_owns {W : World} {O : Option Addr} {n c : Nat} {ks : List Ky} (h : Ord W O n c ks) : W.ownsRow 0 79 4 (.slice O n c) n (enCells ks) := by
  rcases h with ⟨rfl, rfl, rfl, rfl⟩ | ⟨g, rfl, ⟨cur, h1, h2, h3⟩, rfl, h4, h5⟩
  · exact ⟨rfl, .inl ⟨rfl, rfl⟩⟩
  · refine ⟨enCells_length ks, .inr ⟨g, c, cur, rfl, Nat.zero_le _, h1, h4, h5, h2, ?_⟩⟩
    apply List.ext_getElem?
    intro q
    by_cases hq : q < ks.length * 4
    · rw [List.getElem?_take_of_lt hq]
      have hi : q / 4 < ks.length := by omega
      have hr : q % 4 < 4 := Nat.mod_lt _ (by omega)
      have e : q = q / 4 * 4 + q % 4 := by omega
      have hk : ks[q / 4]? = some ks[q / 4] := List.getElem?_eq_getElem hi
      obtain ⟨-, a0, a1, a2, a3⟩ := h3 (q / 4) _ hk
      have hc := enCells_at ks (q / 4) (q % 4) _ hk hr
      rw [← e] at hc
      rw [hc, Array.getElem?_toList]
      generalize hqi : q / 4 = i at *
      generalize hqr : q % 4 = r at *
      rw [e]
      match r, hr with
      | 0, _ => exact a0
      | 1, _ => exact a1
      | 2, _ => exact a2
      | 3, _ => exact a3
    · rw [List.getElem?_eq_none (by rw [List.length_take]; omega), List.getElem?_eq_none (by rw [enCells_length]; omega)]
theorem ord_of_owns {W : World} {g n c : Nat} {ks : List Ky} (h : W.ownsRow 0 79 4 (.slice (some ⟨g, 0, none⟩) n c) n (enCells ks)) (hn : n = ks.length) : Ord W (some ⟨g, 0, none⟩) n c ks := by
  rcases h.2 with ⟨e, -⟩ | ⟨g', c', cur, e, -, h1, h2, h3, h4, h5⟩
  · cases e
  · cases e
    refine .inr ⟨g, rfl, ⟨cur, h1, h4, fun i e hi => ?_⟩, hn, h2, h3⟩
    have hl := (List.getElem?_eq_some_iff.1 hi).1
    obtain ⟨q0, q1, q2, q3⟩ := enCells_get ks i e hi
    rw [← h5] at q0 q1 q2 q3
    rw [List.getElem?_take_of_lt (by omega), Array.getElem?_toList] at q0 q1 q2 q3
    exact ⟨by omega, q0, q1, q2, q3⟩
/-- a new datagram -/
def newF (now : Int) : Hf := { start := now, rej := false, by_ := [], hv := [], cnt := 0, ended := false, en := 0, started := false, first := pk0 }
/-- the entry of a new datagram -/
def newE (k : Ky) (now : Int) (hb : Nat) : En := { k := k, H := newF now, hb := hb, Ab := none, cb := 0, Ah := none, ch := 0 }
theorem newE_own {k : Ky} {now : Int} {hb i : Nat} (h : (newE k now hb).own i) : i = hb := by
  rcases h with h | ⟨a, e, -⟩ | ⟨a, e, -⟩
  · exact h
  · cases e
  · cases e
theorem tab_push {w x5 : World} {T m clk oc g cap hb : Nat} {es : Array MapEntry} {O : Option Addr} {L : List En} {k : Ky} {now : Int} (h : Tab w T m es clk O oc L) (hk : k ∉ L.map (·.k))
    (hT : x5.heap[T]? = some (.cells #[.map (some m), .slice O L.length oc] 72)) (hM : x5.heap[m]? = some (.map (es.push { key := .agg #[.int .i64 k.f, .int .i64 k.t, .int .i64 k.p, .int .i64 k.i], val := .pointer (some ⟨hb, 0, none⟩), born := clk }) (clk + 1)))
    (hH : x5.heap[hb]? = some (.cells #[.int .i64 now, .bool false, .slice none 0 0, .slice none 0 0, .int .i64 0, .bool false, .int .i64 0, .bool false, .int .i64 0, .int .i64 0, .int .i64 0, .int .i64 0, .int .i64 0, .bool false, .bool false, .int .i64 0, .string ⟨#[]⟩] 83)) (ho : x5.ownsRow 0 79 4 (.slice (some ⟨g, 0, none⟩) (L.length + 1) cap) (L.length + 1) (enCells (L.map (·.k)) ++ [.int .i64 k.f, .int .i64 k.t, .int .i64 k.p, .int .i64 k.i]))
    (hc : Chg (S3 T m O) w (x5.setCell ⟨T, 1, none⟩ (.slice (some ⟨g, 0, none⟩) (L.length + 1) cap))) (hat : O.map (·.block) = some g ∨ w.heap.size ≤ g) (hb1 : w.heap.size ≤ hb) (hbg : hb ≠ g) :
    Tab (x5.setCell ⟨T, 1, none⟩ (.slice (some ⟨g, 0, none⟩) (L.length + 1) cap)) T m (es.push { key := .agg #[.int .i64 k.f, .int .i64 k.t, .int .i64 k.p, .int .i64 k.i], val := .pointer (some ⟨hb, 0, none⟩), born := clk }) (clk + 1) (some ⟨g, 0, none⟩) cap (L ++ [newE k now hb]) := by
  have hTl := h.lt (.inl rfl : TOwn T m O L T); have hml := h.lt (.inr (.inl rfl) : TOwn T m O L m)
  have hgO : ∀ P : Nat → Prop, (∀ a, O = some a → P a.block) → (w.heap.size ≤ g → P g) → P g := fun P h1 h2 => by
    rcases hat with q | q
    · cases O with
      | none => cases q
      | some a => have e : a.block = g := by simpa using q
                  exact e ▸ h1 a rfl
    · exact h2 q
  have hgT : g ≠ T := hgO (· ≠ T) (fun a e => (h.og a e).1) (fun q => by omega)
  have hgm : g ≠ m := hgO (· ≠ m) (fun a e => (h.og a e).2) (fun q => by omega)
  have hmem : ∀ f, f ∈ L ++ [newE k now hb] → f ∈ L ∨ f = newE k now hb := fun f hf => by
    rcases List.mem_append.1 hf with q | q
    · exact .inl q
    · exact .inr (by simpa using q)
  have hlow : ∀ f ∈ L, ∀ i, f.own i → i < w.heap.size := fun f hf i q => (h.half f hf).1.lt q
  refine ⟨?_, ?_, ?_, ?_, ?_, ?_, ?_, h.tm, fun a e => by cases e; exact ⟨hgT, hgm⟩, ?_, ?_⟩
  · rw [block_setCell (k := 1) (v := .slice (some ⟨g, 0, none⟩) (L.length + 1) cap) hT]; simp
  · exact block_set_other hM (by exact h.tm)
  · have := h.ents.push k (.pointer (some ⟨hb, 0, none⟩)) clk
    rw [List.map_append, List.map_append]; exact this
  · rw [List.map_append]
    show (L.map (·.k) ++ [k]).Nodup
    rw [List.nodup_append]
    exact ⟨h.nod, by simp, fun a ha b hb2 => by simp at hb2; subst hb2; exact fun q => hk (q ▸ ha)⟩
  · refine ⟨fun x hx => ?_, ?_⟩
    · rw [Array.toList_push, List.mem_append] at hx
      rcases hx with hx | hx
      · have := h.stamp.1 x hx; omega
      · simp at hx; subst hx; simp
    · rw [Array.toList_push, List.map_append, List.nodup_append]
      refine ⟨h.stamp.2, by simp, fun a ha b hb2 => ?_⟩
      obtain ⟨x, hx, rfl⟩ := List.mem_map.1 ha
      have := h.stamp.1 x hx
      simp at hb2; subst hb2; omega
  · have ho' : x5.ownsRow 0 79 4 (.slice (some ⟨g, 0, none⟩) (L.length + 1) cap) (L.length + 1) (enCells ((L ++ [newE k now hb]).map (·.k))) := by
      rw [List.map_append]
      have : enCells (L.map (·.k) ++ [k]) = enCells (L.map (·.k)) ++ [.int .i64 k.f, .int .i64 k.t, .int .i64 k.p, .int .i64 k.i] := by unfold enCells; rw [List.flatMap_append]; rfl
      show World.ownsRow _ _ _ _ _ _ (enCells (L.map (·.k) ++ [k]))
      rw [this]; exact ho
    have := ord_of_owns ho' (by simp)
    rw [List.length_append]
    exact this.kept (fun a e => by cases e; exact Below.heap_setCell _ _ _ _ hgT)
  · intro f hf
    rcases hmem f hf with q | rfl
    · have hok := h.half f q
      refine ⟨hok.1.kept (fun i qi => hc.block i (hok.1.lt qi) ?_), hok.2⟩
      have := h.eo f q i qi
      rintro (q1 | q1 | ⟨a, q1, q2⟩)
      · exact this.1 q1
      · exact this.2.1 q1
      · exact this.2.2 a q1 q2
    · exact ⟨⟨block_set_other hH (by show T ≠ hb; omega), sl_nil _ _, sl_nil _ _⟩, ⟨(fun a e => by cases e), (fun a e => by cases e), (fun a c e => by cases e)⟩⟩
  · intro f hf i qi
    rcases hmem f hf with q | rfl
    · have := h.eo f q i qi
      refine ⟨this.1, this.2.1, fun a e => ?_⟩
      cases e
      exact hgO (· ≠ i) (fun a e => this.2.2 a e) (fun q2 => by have := hlow f q i qi; omega)
    · have := newE_own qi; subst this
      exact ⟨by omega, by omega, fun a e => by cases e; exact fun q => hbg q.symm⟩
  · intro a b e f ha hb2 hab i q1 q2
    have cs : ∀ (j : Nat) (x : En), (L ++ [newE k now hb])[j]? = some x → (L[j]? = some x) ∨ (j = L.length ∧ x = newE k now hb) := fun j x hx => by
      rcases Nat.lt_or_ge j L.length with c | c
      · rw [List.getElem?_append_left c] at hx; exact .inl hx
      · rw [List.getElem?_append_right c] at hx
        have : j - L.length = 0 := by
          have := (List.getElem?_eq_some_iff.1 hx).1; simpa using this
        rw [this] at hx; simp at hx
        exact .inr ⟨by omega, hx.symm⟩
    rcases cs a e ha with qa | ⟨qa, rfl⟩ <;> rcases cs b f hb2 with qb | ⟨qb, rfl⟩
    · exact h.ee a b e f qa qb hab i q1 q2
    · have := newE_own q2; have := hlow e (List.mem_of_getElem? qa) i q1; omega
    · have := newE_own q1; have := hlow f (List.mem_of_getElem? qb) i q2; omega
    · omega
/-- find has laid a new entry -/
def NewPost (w : World) (T m : Nat) (O : Option Addr) (L : List En) (k : Ky) (now : Int) (x : Ending) (w' : World) : Prop :=
  ∃ es clk g c, x = .returned (.pointer (some ⟨w.heap.size + 2, 0, none⟩)) ∧ Tab w' T m es clk (some ⟨g, 0, none⟩) c (L ++ [newE k now (w.heap.size + 2)]) ∧ Chg (S3 T m O) w w' ∧ (O.map (·.block) = some g ∨ w.heap.size ≤ g)
end Go.Proofs.Ytmeldgnjgogacaa.Re
