/-
  The reference's table, made since w, with its blocks S: New, Send, Receive, Tick, Known, Sizes at it; it stands beside a table.
-/
import Derived.Test.YtjdoemmfemogmaaArRf11
import Derived.Test.YtjdoemmfemogmaaArSendF
namespace Go.Proofs.Ytjdoemmfemogmaa.Ar
set_option maxRecDepth 100000
open Go.RowKit Go.Proofs.Ytjdoemmfemogmaa.Wire

structure OneR (w : World) (T : Nat) (c : Tc) (A : AL) (S : Nat → Prop) (W : World) : Prop where
  ex : ∃ (D : Option Addr) (d : Nat) (L : List Re), RTab W w.heap.size T c D d L ∧ Rel (absR L) A ∧ ∀ q, S q ↔ ROwn T D L q
section
variable {w W W' : World} {T : Nat} {c : Tc} {A : AL} {S : Nat → Prop}
theorem OneR.lt (h : OneR w T c A S W) {q : Nat} (hq : S q) : w.heap.size ≤ q ∧ q < W.heap.size := by
  obtain ⟨D, d, L, h1, h2, h3⟩ := h.ex
  exact h1.lt ((h3 q).1 hq)
theorem OneR.kept (h : OneR w T c A S W) (hk : ∀ q, S q → W'.heap[q]? = W.heap[q]?) : OneR w T c A S W' := by
  obtain ⟨D, d, L, h1, h2, h3⟩ := h.ex
  exact ⟨D, d, L, h1.kept (fun q hq => hk q ((h3 q).2 hq)), h2, h3⟩
theorem OneR.below (h : OneR w T c A S W) (hb : Below W.heap.size W W') : OneR w T c A S W' := h.kept (fun q hq => hb.block q (h.lt hq).2)
theorem OneR.stand {K : Nat → Prop} (h : OneR w T c A S W) (hk : Kept K W W') (hK : ∀ q, S q → K q) : OneR w T c A S W' := h.kept (fun q hq => hk.2 q (hK q hq) (h.lt hq).2)
theorem absR_len {L : List Re} : (absR L).length = L.length := by unfold absR; simp
/-- a table stands while the reference's changes -/
theorem OneA.beside {T2 : Nat} {c2 : Tc} {A2 : AL} {K K' : Nat → Prop} (h : OneA w T2 c2 A2 K W) (hc : Chg S W W') (hS : ∀ q, S q → K q ∧ w.heap.size ≤ q) (hK : ∀ q, K' q → K q ∨ W.heap.size ≤ q) : OneA w T2 c2 A2 K' W' := by
  obtain ⟨m, es, clk, L, h1, h2, h3⟩ := h.ex
  have hz := h.bel.size
  refine ⟨⟨m, es, clk, L, h1.chg hc (fun q hq hs => (h3 q hq).2 (hS q hs).1), h2, fun q hq => ⟨(h3 q hq).1, fun hk => ?_⟩⟩, ?_⟩
  · rcases hK q hk with r | r
    · exact (h3 q hq).2 r
    · have := h1.lt hq; omega
  · exact ⟨hc.os.trans h.bel.os, hc.tape.trans h.bel.tape, hc.output.trans h.bel.output, Nat.le_trans hz hc.size, fun k hk => (hc.block k (by omega) (fun r => by have := (hS k r).2; omega)).trans (h.bel.block k hk)⟩
theorem OneR.recv (h : OneR w T c A S W) (now op f fm t tm : Int) (c' : Tc) (A' : AL) (out : List Am) (held : List Hp) (he : recvA c A now ⟨op, f, fm, t, tm⟩ = (c', A', out, held)) (hi : Inv A now) (h1 : 0 ≤ now ∧ now ≤ 1000000) (h2 : 0 ≤ c.at_ ∧ c.at_ ≤ now) :
    Calls Try.prog 34 #[.pointer (some ⟨T, 0, none⟩), .int .i64 now, .agg #[.int .i64 op, .int .i64 f, .int .i64 fm, .int .i64 t, .int .i64 tm]] W fun x W' =>
      ∃ (B : Option Addr) (k : Nat) (F : Option Addr) (n : Nat) (S' : Nat → Prop), x = .returned (.tuple #[.slice B out.length k, .slice F held.length n]) ∧ MRow W' W.heap.size B k out ∧ HRow W' W.heap.size F n held ∧ OneR w T c' A' S' W' ∧ Chg S W W' ∧ ∀ q, S' q → S q ∨ W.heap.size ≤ q := by
  obtain ⟨D, d, L, ht, hr, h3⟩ := h.ex
  obtain ⟨g1, g2, g3⟩ := hr.recv c now ⟨op, f, fm, t, tm⟩
  have hev : ∀ e ∈ L, EvI now e.v := fun e he => hi.ev _ (hr.perm.mem_iff.1 (List.mem_map_of_mem he))
  have hL : L.length ≤ 16 := by rw [← absR_len, hr.len]; exact hi.len
  refine (recv_ref now op f fm t tm W ht hr.nodR hL hev h1 h2).mono ?_
  rintro x W' ⟨B, k, F, n, L', rfl, hm, hh, ht', ha, hc, hn⟩
  rw [he] at g1 g2 g3
  dsimp only at g1 g2 g3
  have g2a := congrArg Prod.fst g2; have g2b := congrArg Prod.snd g2
  dsimp only at g2a g2b
  rw [g2a] at hm; rw [g2b] at hh; rw [g1] at ht'
  rw [g2a, g2b]
  rw [← ha] at g3
  exact ⟨B, k, F, n, ROwn T D L', rfl, hm, hh, ⟨D, d, L', ht', g3, fun _ => Iff.rfl⟩, hc.mono (fun q hq => (h3 q).2 hq), fun q hq => (hn q hq).imp (fun r => (h3 q).2 r) id⟩
theorem OneR.send (h : OneR w T c A S W) (now to_ : Int) (s : ByteArray) (A' : AL) (mac : Int) (out : List Am) (err : Int) (he : sendF c A now to_ s = (A', mac, out, err)) (hs : s.size ≤ 9223372036854775807) (hi : Inv A now) :
    Calls Try.prog 31 #[.pointer (some ⟨T, 0, none⟩), .int .i64 now, .int .i64 to_, .string s] W fun x W' =>
      ∃ (B : Option Addr) (k : Nat) (S' : Nat → Prop), x = .returned (.tuple #[.int .i64 mac, .slice B out.length k, .int .i64 err]) ∧ MRow W' W.heap.size B k out ∧ OneR w T c A' S' W' ∧ Chg S W W' ∧ ∀ q, S' q → S q ∨ W.heap.size ≤ q := by
  obtain ⟨D, d, L, ht, hr, h3⟩ := h.ex
  obtain ⟨g1, g2⟩ := hr.send (fun y hy => by have := hi.key y hy; omega) c now to_ s
  have hev : ∀ e ∈ L, EvI now e.v := fun e he => hi.ev _ (hr.perm.mem_iff.1 (List.mem_map_of_mem he))
  have hL : L.length ≤ 16 := by rw [← absR_len, hr.len]; exact hi.len
  refine (send_ref now to_ s W ht hr.nodR hL hev hs).mono ?_
  rintro x W' ⟨B, k, D', d', L', rfl, hm, ht', ha, hc, hn⟩
  rw [he] at g1 g2
  dsimp only at g1 g2
  rw [g1] at hm ⊢
  rw [← ha] at g2
  exact ⟨B, k, ROwn T D' L', rfl, hm, ⟨D', d', L', ht', g2, fun _ => Iff.rfl⟩, hc.mono (fun q hq => (h3 q).2 hq), fun q hq => (hn q hq).imp (fun r => (h3 q).2 r) id⟩
theorem OneR.tick (h : OneR w T c A S W) (now : Int) (A' : AL) (out : List Am) (held : List Hp) (he : tickA c A now = (A', out, held)) (hi : Inv A now) (h1 : 0 ≤ now ∧ now ≤ 1000000) :
    Calls Try.prog 32 #[.pointer (some ⟨T, 0, none⟩), .int .i64 now] W fun x W' =>
      ∃ (B : Option Addr) (k : Nat) (F : Option Addr) (n : Nat) (S' : Nat → Prop), x = .returned (.tuple #[.slice B out.length k, .slice F held.length n]) ∧ MRow W' W.heap.size B k out ∧ HRow W' W.heap.size F n held ∧ OneR w T c A' S' W' ∧ Chg S W W' ∧ ∀ q, S' q → S q ∨ W.heap.size ≤ q := by
  obtain ⟨D, d, L, ht, hr, h3⟩ := h.ex
  obtain ⟨g1, g2⟩ := hr.tickA c now
  have hev : ∀ e ∈ L, EvI now e.v := fun e he => hi.ev _ (hr.perm.mem_iff.1 (List.mem_map_of_mem he))
  have hL : L.length ≤ 16 := by rw [← absR_len, hr.len]; exact hi.len
  refine (tick_ref now W ht hL hev h1).mono ?_
  rintro x W' ⟨B, k, F, n, D', d', L', rfl, hm, hh, ht', ha, hc, hn⟩
  rw [he] at g1 g2
  dsimp only at g1 g2
  have g2a := congrArg Prod.fst g1; have g2b := congrArg Prod.snd g1
  dsimp only at g2a g2b
  rw [← g2a] at hm; rw [← g2b] at hh
  rw [← ha] at g2
  exact ⟨B, k, F, n, ROwn T D' L', by rw [g2a, g2b], hm, hh, ⟨D', d', L', ht', g2, fun _ => Iff.rfl⟩, hc.mono (fun q hq => (h3 q).2 hq), fun q hq => (hn q hq).imp (fun r => (h3 q).2 r) id⟩
theorem OneR.known (h : OneR w T c A S W) (to_ : Int) (v : Value) (hv : knownV (look A to_) = v) (hA : A.length ≤ 1000) :
    Calls Try.prog 36 #[.pointer (some ⟨T, 0, none⟩), .int .i64 to_] W fun x W' => x = .returned v ∧ W = W' := by
  obtain ⟨D, d, L, ht, hr, h3⟩ := h.ex
  have hL : L.length ≤ 1000 := by rw [← absR_len, hr.len]; exact hA
  have := known_ref to_ W ht hL hr.nodR
  rw [hr.look, hv] at this
  exact this
theorem sumA_perm {A B : AL} (h : A.Perm B) : sumA A = sumA B := by
  induction h with
  | nil => rfl
  | cons x _ ih => unfold sumA at *; rw [List.map_cons, List.map_cons, List.foldr_cons, List.foldr_cons, ih]
  | swap x y l => unfold sumA; rw [List.map_cons, List.map_cons, List.map_cons, List.map_cons, List.foldr_cons, List.foldr_cons, List.foldr_cons, List.foldr_cons]; omega
  | trans _ _ h1 h2 => exact h1.trans h2
theorem OneR.sizes (h : OneR w T c A S W) (n : Nat) (z : Int) (hn : A.length = n) (hz : sumA A = z) {now : Int} (hi : Inv A now) :
    Calls Try.prog 35 #[.pointer (some ⟨T, 0, none⟩)] W fun x W' => x = .returned (.tuple #[.int .i64 (n : Int), .int .i64 z]) ∧ W = W' := by
  obtain ⟨D, d, L, ht, hr, h3⟩ := h.ex
  have hL : L.length = n := by rw [← absR_len, hr.len]; exact hn
  have hev : ∀ e ∈ L, EvI now e.v := fun e he => hi.ev _ (hr.perm.mem_iff.1 (List.mem_map_of_mem he))
  have hb : ∀ e ∈ L, 0 ≤ e.v.n ∧ e.v.n ≤ 1000 := fun e he => by
    have := hev e he
    cases hv : e.v with
    | inc held sent first last => rw [hv] at this; unfold EvI at this; have e9 : (Ev.inc held sent first last).n = (held.length : Int) := rfl; rw [e9]; omega
    | res mac since used => have e9 : (Ev.res mac since used).n = 0 := rfl; rw [e9]; omega
  have h16 : A.length ≤ 16 := hi.len
  have := sizes_ref W ht (by omega) hb
  rw [sumA_perm hr.perm, hz, hL] at this
  exact this
theorem new_ref (own mac : Int) (w : World) : Calls Try.prog 29 #[.int .i64 own, .int .i64 mac] w fun e w' =>
    (uniB own = true ∧ umacB mac = true ∧ e = .returned (.tuple #[.pointer (some ⟨w.heap.size, 0, none⟩), .int .i64 0]) ∧ w' = w.alloc (.cells #[.int .i64 own, .int .i64 mac, .slice none 0 0, .bool false, .int .i64 0] 109)) ∨
    ((uniB own = false ∨ umacB mac = false) ∧ e = .returned (.tuple #[.pointer none, .int .i64 50]) ∧ w = w') := by
  have H1 := Lib.hid (ones_any own); have H2 := Lib.hid (link_any mac)
  generalize uniB own = b1 at *
  generalize umacB mac = b2 at *
  go_enter Try.func29, Try.ntmps29
  cases b1 <;> cases b2
  all_goals
    go_wp2_with (first | (go_at_call 43; (with_reducible refine (H1.out _).mono ?_); rintro e w' ⟨rfl, rfl⟩) | (go_at_call 44; (with_reducible refine (H2.out _).mono ?_); rintro e w' ⟨rfl, rfl⟩))
  all_goals
    go_ret2
    first | exact ⟨rfl, rfl⟩ | exact .inl ⟨rfl, rfl, rfl, rfl⟩ | exact .inr ⟨.inl rfl, rfl, rfl⟩ | exact .inr ⟨.inr rfl, rfl, rfl⟩
theorem OneR.ofNew (hb : Below w.heap.size w W) (own mac : Int) : OneR w W.heap.size ⟨own, mac, false, 0⟩ [] (fun q => q = W.heap.size) (W.alloc (.cells #[.int .i64 own, .int .i64 mac, .slice none 0 0, .bool false, .int .i64 0] 109)) := by
  refine ⟨none, 0, [], ⟨alloc_new W _, SRow.nil _ _ _ _ _, fun e he => by simp at he, hb.size, fun q hq => absurd hq (bk_none q), fun e he => by simp at he⟩, Rel.nil, fun q => ⟨fun e => .inl e, fun e => ?_⟩⟩
  rcases e with e | e | ⟨x, hx, -⟩
  · exact e
  · exact absurd e (bk_none q)
  · simp at hx
end
end Go.Proofs.Ytjdoemmfemogmaa.Ar
