/-
  The table as plain data with the blocks that it owns: New, Put, Tick and Sizes at it.
-/
import Derived.Test.YtmgjcjacoegocaaDoorReM
import Derived.Test.YtmgjcjacoegocaaDoorReTick
namespace Go.Proofs.YtmgjcjacoegocaaDoor.Re
set_option maxRecDepth 100000
open Go.RowKit Go.Proofs.YtmgjcjacoegocaaDoor.Wire
open Go.Proofs.YtmgjcjacoegocaaDoor.Ip (Pk vlenB)

def In64 (n : Int) : Prop := -9223372036854775808 ≤ n ∧ n ≤ 9223372036854775807
theorem layN_start (s : ByteArray) (o : Nat) (H : Hf) : ∀ n, (layN s o H n).start = H.start ∧ (layN s o H n).started = H.started ∧ (layN s o H n).first = H.first ∧ (layN s o H n).rej = H.rej ∧ (layN s o H n).ended = H.ended ∧ (layN s o H n).en = H.en
  | 0 => ⟨rfl, rfl, rfl, rfl, rfl, rfl⟩
  | n + 1 => by
    have ih := layN_start s o H n
    show (laySet (layN s o H n) _ _).start = _ ∧ (laySet (layN s o H n) _ _).started = _ ∧ (laySet (layN s o H n) _ _).first = _ ∧ (laySet (layN s o H n) _ _).rej = _ ∧ (laySet (layN s o H n) _ _).ended = _ ∧ (laySet (layN s o H n) _ _).en = _
    unfold laySet
    split
    · exact ih
    · exact ih
theorem storeF_start (H : Hf) (p : Pk) : (storeF H p).start = H.start := by
  have h := (layN_start p.s p.off.toNat (growF H (p.off.toNat + p.s.size)) p.s.size).1
  unfold storeF firstF endF
  split <;> split <;> exact h
theorem putA_start (A : List (Ky × Hf)) (now : Int) (p : Pk) : ∀ x ∈ (putA A now p).1, x.2.start = now ∨ ∃ y ∈ A, x.2.start = y.2.start := by
  have hset : ∀ (A : List (Ky × Hf)) (i : Nat) (k : Ky) (H : Hf) (x : Ky × Hf), x ∈ (A.set i (k, H)) → x ∈ A ∨ x.2.start = H.start := fun A i k H x hx => by
    rcases List.mem_or_eq_of_mem_set hx with q | q
    · exact .inl q
    · exact .inr (by rw [q])
  have key : ∀ (A : List (Ky × Hf)) (i : Nat) (k : Ky) (H : Hf), ∀ x ∈ (putH A i k H p).1, x ∈ A ∨ x.2.start = H.start := fun A i k H x hx => by
    unfold putH at hx
    split at hx
    · exact .inl hx
    · split at hx
      · exact hset A i k (rejF H) x hx
      · split at hx
        · exact .inl ((List.eraseIdx_sublist _ _).subset hx)
        · exact (hset A i k (storeF H p) x hx).imp id (fun q => q.trans (storeF_start H p))
  intro x hx
  unfold putA at hx
  split at hx
  · exact .inr ⟨x, hx, rfl⟩
  · split at hx
    · exact .inr ⟨x, hx, rfl⟩
    · split at hx
      · rename_i i hi
        rcases key _ _ _ _ x hx with q | q
        · exact .inr ⟨x, q, rfl⟩
        · cases hA : A[i]? with
          | none => rw [hA] at q; exact .inl q
          | some y => rw [hA] at q; exact .inr ⟨y, List.mem_of_getElem? hA, q⟩
      · rcases key _ _ _ _ x hx with q | q
        · rcases List.mem_append.1 q with q | q
          · exact .inr ⟨x, q, rfl⟩
          · simp at q; rw [q]; exact .inl rfl
        · exact .inl q
/-- the table at T holds the datagrams A, and owns the blocks S -/
structure TT (W : World) (T : Nat) (A : List (Ky × Hf)) (S : Nat → Prop) : Prop where
  tab : ∃ m es clk O oc L, Tab W T m es clk O oc L ∧ (∀ e ∈ L, HInv e.H) ∧ abs L = A ∧ ∀ q, TOwn T m O L q → S q
  lt : ∀ q, S q → q < W.heap.size
  st : ∀ x ∈ A, In64 x.2.start
theorem TT.kept {W W' : World} {T : Nat} {A : List (Ky × Hf)} {S : Nat → Prop} (h : TT W T A S) (hz : W.heap.size ≤ W'.heap.size) (hk : ∀ q, S q → W'.heap[q]? = W.heap[q]?) : TT W' T A S := by
  obtain ⟨m, es, clk, O, oc, L, h1, h2, h3, h4⟩ := h.tab
  exact ⟨⟨m, es, clk, O, oc, L, h1.kept (fun q hq => hk q (h4 q hq)), h2, h3, h4⟩, fun q hq => Nat.lt_of_lt_of_le (h.lt q hq) hz, h.st⟩
theorem TT.below {W W' : World} {T : Nat} {A : List (Ky × Hf)} {S : Nat → Prop} (h : TT W T A S) (hb : Below W.heap.size W W') : TT W' T A S := h.kept hb.size (fun q hq => hb.block q (h.lt q hq))
theorem TT.chg {W W' : World} {T : Nat} {A : List (Ky × Hf)} {S S2 : Nat → Prop} (h : TT W T A S) (hc : Chg S2 W W') (hd : ∀ q, S q → ¬ S2 q) : TT W' T A S := h.kept hc.size (fun q hq => hc.block q (h.lt q hq) (hd q hq))
theorem keyed_iff (A : List (Ky × Hf)) (L : List En) (h : abs L = A) (k : Ky) : k ∈ A.map (·.1) ↔ k ∈ L.map (·.k) := by rw [← h, abs_keys]
/-- what Put makes of a table -/
def PutW (S : Nat → Prop) (w : World) (T : Nat) (r : List (Ky × Hf) × Pk × Bool × Int) (x : Ending) (w' : World) : Prop :=
  x = PutRes r.2.1 r.2.2.1 r.2.2.2 ∧ ∃ S' : Nat → Prop, TT w' T r.1 S' ∧ Chg S w w' ∧ ∀ q, S' q → S q ∨ w.heap.size ≤ q
theorem put_any (T : Nat) (A : List (Ky × Hf)) (S : Nat → Prop) (now : Int) (p : Pk) (w : World) (h : TT w T A S) (hs : p.s.size ≤ 9223372036854775807) (hL : A.length < 8 ∨ keyOf p ∈ A.map (·.1)) (hl9 : A.length ≤ 900) (hnow : In64 now) :
    Calls Tryd.prog 37 #[.pointer (some ⟨T, 0, none⟩), .int .i64 now, .agg #[.int .i64 p.f, .int .i64 p.t, .int .i64 p.pr, .int .i64 p.ttl, .int .i64 p.id, .bool p.df, .bool p.mf, .int .i64 p.off, .string p.s]] w (PutW S w T (putA A now p)) := by
  have same : ∀ (x : Ending) (w' : World) (q : Pk) (b : Bool) (e : Int), putA A now p = (A, q, b, e) → x = PutRes q b e ∧ Below w.heap.size w w' → PutW S w T (putA A now p) x w' := fun x w' q b e he hx => by
    rw [he]
    exact ⟨hx.1, S, h.below hx.2, Chg.of_below hx.2, fun _ r => .inl r⟩
  cases hv : vldB p with
  | false => exact (put_bad T now p w hv hs).mono fun x w' hx => same x w' _ _ _ (by unfold putA; rw [if_pos hv]) hx
  | true =>
    by_cases hf : p.mf = false ∧ p.off = 0
    · exact (put_whole T now p w hv hf.1 hf.2 hs).mono fun x w' hx => same x w' _ _ _ (by unfold putA; rw [if_neg (by rw [hv]; simp), if_pos hf]) hx
    · have hf' : p.mf = true ∨ p.off ≠ 0 := by
        cases hm : p.mf with
        | true => exact .inl rfl
        | false => exact .inr fun h0 => hf ⟨hm, h0⟩
      obtain ⟨m, es, clk, O, oc, L, h1, h2, h3, h4⟩ := h.tab
      have hl : L.length = A.length := by rw [← h3]; simp [abs]
      refine (put_main T m es clk O oc L now p w h1 h2 hv hf' hs (by rw [hl]; exact hL.imp id (fun q => (keyed_iff A L h3 _).1 q)) (by omega)).mono ?_
      rintro x w' ⟨hx, es', clk', O', oc', L', t1, t2, t3, t4, t5⟩
      rw [h3] at hx t2
      refine ⟨hx, fun q => TOwn T m O' L' q, ⟨⟨m, es', clk', O', oc', L', t1, t3, t2, fun _ r => r⟩, fun q hq => t1.lt hq, fun x hx => ?_⟩, t4.mono h4, fun q hq => (t5 q hq).imp (h4 q) id⟩
      rcases putA_start A now p x hx with q | ⟨y, hy, q⟩
      · rw [q]; exact hnow
      · rw [q]; exact h.st y hy
/-- Tick in plain data -/
def keepA (now : Int) (A : List (Ky × Hf)) : List (Ky × Hf) := A.filter fun x => !oldB now x.2
def toldA (now : Int) (A : List (Ky × Hf)) : List Pk := (A.filter fun x => oldB now x.2 && x.2.started).map fun x => x.2.first
theorem keepA_abs (now : Int) (L : List En) : abs (keepT now L) = keepA now (abs L) := by
  unfold abs keepT keepA
  rw [List.filter_map]
  rfl
theorem toldA_abs (now : Int) (L : List En) : toldT now L = toldA now (abs L) := by
  unfold abs toldT toldA
  rw [List.filter_map, List.map_map]
  rfl
def TickW (S : Nat → Prop) (w : World) (T : Nat) (A : List (Ky × Hf)) (now : Int) (x : Ending) (w' : World) : Prop :=
  ∃ B c, x = .returned (.slice B (toldA now A).length c) ∧ w'.ownsRow w.heap.size 83 9 (.slice B (toldA now A).length c) (toldA now A).length (pkC (toldA now A)) ∧ TT w' T (keepA now A) S ∧ Chg S w w'
end Go.Proofs.YtmgjcjacoegocaaDoor.Re
