/-
  An incomplete datagram in memory: what conflicts with it, how it is rejected, whether it is whole.
-/
import Derived.Test.YtmeldgnjgogacaaReKey
import Derived.Test.YtmeldgnjgogacaaFrag0
import Derived.Test.YtmeldgnjgogacaaIpValid
import Derived.WalkMore
import Derived.Lib.Hide
import Derived.Deep.QuietTactic
import Derived.BigQuiet
import Derived.Deep.Cut
import Derived.Deep.DeepCutAuto
import Derived.Test.YtmeldgnjgogacaaStore
namespace Go.Proofs.Ytmeldgnjgogacaa.Re
set_option maxRecDepth 100000
open Go.RowKit Go.Proofs.Ytmeldgnjgogacaa.Wire
open Go.Proofs.Ytmeldgnjgogacaa.Ip (Pk)

/-- an incomplete datagram: bytes, which of them are there, how many -/
structure Hf where
  start : Int
  rej : Bool
  by_ : List UInt8
  hv : List Bool
  cnt : Int
  ended : Bool
  en : Int
  started : Bool
  first : Pk
def byC (l : List UInt8) : List Value := l.map fun b => .int .u8 (b.toNat : Int)
def boC (l : List Bool) : List Value := l.map .bool
/-- a slice reads as a list of one-cell elements -/
def Sl (W : World) (v : Value) (T : TypeId) (xs : List Value) : Prop := W.ownsRow 0 T 1 v xs.length xs
theorem Sl.cell {W : World} {g n c k : Nat} {T : TypeId} {xs : List Value} {u : Value} (h : Sl W (.slice (some ⟨g, 0, none⟩) n c) T xs) (hk : xs[k]? = some u) : W.cell? ⟨g, k, none⟩ = some u ∧ W.frozen? ⟨g, k, none⟩ = false := by
  rcases h.2 with ⟨e, -⟩ | ⟨g', cap, cur, e, -, hg, hn, -, hs, ht⟩
  · cases e
  · cases e
    refine cell_of_block hg ?_
    rw [← ht, List.getElem?_take] at hk
    split at hk
    · simpa using hk
    · cases hk
theorem Sl.addr {W : World} {A : Option Addr} {n c : Nat} {T : TypeId} {xs : List Value} (h : Sl W (.slice A n c) T xs) (hx : 0 < xs.length) : ∃ g, A = some ⟨g, 0, none⟩ := by
  rcases h.2 with ⟨e, h0⟩ | ⟨g', cap, cur, e, -⟩
  · omega
  · cases e; exact ⟨g', rfl⟩
/-- does byte at of the datagram, which the fragment p bears too, differ? -/
def differsB (H : Hf) (p : Pk) (k : Nat) : Bool := (H.hv.getD k false) && (H.by_.getD k 0 != p.s.data.toList.getD (k - p.off.toNat) 0)
/-- an incomplete datagram in block hb -/
def HalfB (W : World) (hb : Nat) (H : Hf) (Ab : Option Addr) (cb : Nat) (Ah : Option Addr) (ch : Nat) : Prop :=
  W.heap[hb]? = some (.cells #[.int .i64 H.start, .bool H.rej, .slice Ab H.by_.length cb, .slice Ah H.hv.length ch, .int .i64 H.cnt, .bool H.ended, .int .i64 H.en, .bool H.started, .int .i64 H.first.f, .int .i64 H.first.t, .int .i64 H.first.pr, .int .i64 H.first.ttl, .int .i64 H.first.id, .bool H.first.df, .bool H.first.mf, .int .i64 H.first.off, .string H.first.s] 83) ∧ Sl W (.slice Ab H.by_.length cb) 5 (byC H.by_) ∧ Sl W (.slice Ah H.hv.length ch) 4 (boC H.hv)
theorem u8_ne (a b : UInt8) : ((a.toNat : Int) != (b.toNat : Int)) = (a != b) := by
  rw [Bool.eq_iff_iff, bne_iff_ne, bne_iff_ne]
  constructor
  · intro h e; subst e; exact h rfl
  · intro h e; exact h (UInt8.toNat_inj.1 (by omega))
set_option maxHeartbeats 4000000 in
theorem differs_any (H : Hf) (p : Pk) (k : Nat) (bx px hb : Nat) (Ab : Option Addr) (cb : Nat) (Ah : Option Addr) (ch : Nat) (w : World) (hx : w.heap[bx]? = some (.cells #[.pointer (some ⟨hb, 0, none⟩)] 80)) (hpx : w.heap[px]? = some (.cells #[.int .i64 p.f, .int .i64 p.t, .int .i64 p.pr, .int .i64 p.ttl, .int .i64 p.id, .bool p.df, .bool p.mf, .int .i64 p.off, .string p.s] 30))
    (hH : HalfB w hb H Ab cb Ah ch) (hl : H.hv.length = H.by_.length) (hk : p.off ≤ (k : Int)) (h0 : 0 ≤ p.off) (hk2 : (k : Int) < p.off + p.s.size) (hm : (k : Int) ≤ 1000000) :
    Calls Try.prog 60 #[.int .i64 (k : Int), .pointer (some ⟨bx, 0, none⟩), .pointer (some ⟨px, 0, none⟩)] w fun e w' => e = .returned (.bool (differsB H p k)) ∧ Below w.heap.size w w' := by
  obtain ⟨hh, hSb, hSh⟩ := hH
  have qx := (cell_of_box hx).1
  have Hh := Lib.hid hh; have Hp := Lib.hid hpx; clear hx hh hpx
  have qh2 := (cell_of_block (k := 2) Hh.out rfl).1; have zh2 := (cell_of_block (k := 2) Hh.out rfl).2; have qh3 := (cell_of_block (k := 3) Hh.out rfl).1; have zh3 := (cell_of_block (k := 3) Hh.out rfl).2
  have qp7 := (cell_of_block (k := 7) Hp.out rfl).1; have zp7 := (cell_of_block (k := 7) Hp.out rfl).2; have qp8 := (cell_of_block (k := 8) Hp.out rfl).1; have zp8 := (cell_of_block (k := 8) Hp.out rfl).2
  clear zh2 zh3 zp7 zp8
  by_cases h1 : k < H.by_.length
  · obtain ⟨gb, rfl⟩ := hSb.addr (by simp [byC]; omega)
    obtain ⟨gh, rfl⟩ := hSh.addr (by simp [boC]; omega)
    have e1 : H.by_[k]? = some H.by_[k] := List.getElem?_eq_getElem h1
    have e2 : H.hv[k]? = some (H.hv[k]'(by omega)) := List.getElem?_eq_getElem (by omega)
    have c1 := (hSb.cell (k := k) (u := .int .u8 ((H.by_[k]).toNat : Int)) (by simp [byC, e1])).1
    have c2 := (hSh.cell (k := k) (u := .bool (H.hv[k]'(by omega))) (by simp [boC, e2])).1
    have hd : differsB H p k = ((H.hv[k]'(by omega)) && (H.by_[k] != p.s.data.toList.getD (k - p.off.toNat) 0)) := by
      unfold differsB
      rw [List.getD_eq_getElem?_getD, List.getD_eq_getElem?_getD, e1, e2]; rfl
    rw [hd]; clear hd
    generalize H.by_[k] = x at *
    generalize (H.hv[k]'(by omega)) = y at *
    obtain ⟨o, ho⟩ := Int.eq_ofNat_of_zero_le h0
    obtain ⟨j, hj⟩ : ∃ j, k = o + j := ⟨k - o, by omega⟩
    have hjs : j < p.s.size := by omega
    have hg : p.s.data.toList.getD (k - p.off.toNat) 0 = p.s[j] := by
      rw [show k - p.off.toNat = j by omega]; exact getD_lt _ _ hjs
    rw [hg]; clear hg
    rw [ho] at qp7
    have HJ := Lib.hid hj; clear hj
    clear hSb hSh e1 e2
    have HO := Lib.hid ho; clear ho
    have j1 : (k : Int) - (o : Int) = (j : Int) := by have := HJ.out; omega
    have k0 : (0 : Int) ≤ (k : Int) := by omega
    have k1 : decide ((k : Int) < (H.by_.length : Int)) = true := by simp; omega
    have w1 : IntKind.i64.wrap ((k : Int) - (o : Int)) = (j : Int) := by rw [j1]; exact IntWalk.i64_in _ (by omega)
    have j2 : (0 : Int) ≤ (j : Int) := by omega
    have j3 : (j : Int) < (p.s.size : Int) := by omega
    have k2 : (k : Int) < (H.by_.length : Int) := by omega
    have k3 : (k : Int) < (H.hv.length : Int) := by omega
    clear j1 hk hk2 h0 hm hl
    cases y with
    | false =>
      go_enter Try.func60, Try.ntmps60
      go_wp2_with fail
      go_quiet (fail)
      go_wp2_with fail
      go_ret
      exact ⟨rfl, below_drewN (Below.refl _ _) _⟩
    | true =>
      go_enter Try.func60, Try.ntmps60
      go_wp2_with fail
      go_quiet (fail)
      go_wp2_with fail
      go_ret
      exact ⟨by rw [Bool.true_and]; exact ret_bool (u8_ne _ _), below_drewN (Below.refl _ _) _⟩
  · have hd : differsB H p k = false := by
      unfold differsB
      rw [List.getD_eq_getElem?_getD, List.getElem?_eq_none (by omega)]; rfl
    rw [hd]; clear hd
    have k1 : decide ((k : Int) < (H.by_.length : Int)) = false := by simp; omega
    go_enter Try.func60, Try.ntmps60
    go_wp2_with fail
    go_quiet (fail)
    go_wp2_with fail
    go_ret
    exact ⟨rfl, below_drewN (Below.refl _ _) _⟩
/-- some byte of the fragment differs from what has come -/
def diffAny (H : Hf) (p : Pk) (n : Nat) : Bool := (List.range n).any fun j => differsB H p (p.off.toNat + j)
/-- the fragment conflicts with what has come -/
def conflB (H : Hf) (p : Pk) : Bool := diffAny H p p.s.size || (H.ended && decide (H.en < p.off + p.s.size)) || (!p.mf && ((H.ended && decide (p.off + p.s.size ≠ H.en)) || decide (p.off + p.s.size < (H.by_.length : Int))))
theorem diffAny_zero (H : Hf) (p : Pk) : diffAny H p 0 = false := rfl
theorem diffAny_succ {H : Hf} {p : Pk} {k : Nat} (h : diffAny H p k = false) (hd : differsB H p (p.off.toNat + k) = false) : diffAny H p (k + 1) = false := by
  unfold diffAny at *
  rw [List.range_succ, List.any_append, h]
  simp [hd]
theorem diffAny_true {H : Hf} {p : Pk} {k n : Nat} (hk : k < n) (hd : differsB H p (p.off.toNat + k) = true) : diffAny H p n = true := by
  unfold diffAny
  rw [List.any_eq_true]
  exact ⟨k, by simpa using hk, hd⟩
theorem HalfB.below {W W' : World} {hb : Nat} {H : Hf} {Ab : Option Addr} {cb : Nat} {Ah : Option Addr} {ch : Nat} (h : HalfB W hb H Ab cb Ah ch) (hl : Below W.heap.size W W') : HalfB W' hb H Ab cb Ah ch := by
  have hg : W.grownBy W' none := ⟨hl.os, hl.tape, hl.output, hl.size, fun i hi _ => hl.block i hi⟩
  exact ⟨bblock hl h.1, World.ownsRow.kept h.2.1 hg (by cases Value.ownBlock (.slice Ab H.by_.length cb) <;> simp), World.ownsRow.kept h.2.2 hg (by cases Value.ownBlock (.slice Ah H.hv.length ch) <;> simp)⟩
set_option maxHeartbeats 4000000 in
theorem conflicts_any (H : Hf) (p : Pk) (hb : Nat) (Ab : Option Addr) (cb : Nat) (Ah : Option Addr) (ch : Nat) (w : World) (hH : HalfB w hb H Ab cb Ah ch) (hlen : H.hv.length = H.by_.length) (h0 : 0 ≤ p.off) (hm : p.off + p.s.size ≤ 1000000) (he : 0 ≤ H.en ∧ H.en ≤ 1000000) :
    Calls Try.prog 35 #[.pointer (some ⟨hb, 0, none⟩), .agg #[.int .i64 p.f, .int .i64 p.t, .int .i64 p.pr, .int .i64 p.ttl, .int .i64 p.id, .bool p.df, .bool p.mf, .int .i64 p.off, .string p.s]] w fun e w' => e = .returned (.bool (conflB H p)) ∧ Below w.heap.size w w' := by
  obtain ⟨o, ho⟩ := Int.eq_ofNat_of_zero_le h0
  have HH := Lib.hid hH; clear hH
  have HLEN := Lib.hid hlen; clear hlen
  have hlt := blk_lt HH.out.1
  have Hx0 := Lib.hid (alloc_new w (.cells #[.pointer (some ⟨hb, 0, none⟩)] 80))
  have HB1 := below_alloc (o := .cells #[.pointer (some ⟨hb, 0, none⟩)] 80) (Below.refl w.heap.size w)
  have Hx := Lib.hid (block_alloc Hx0.out (.cells #[.int .i64 p.f, .int .i64 p.t, .int .i64 p.pr, .int .i64 p.ttl, .int .i64 p.id, .bool p.df, .bool p.mf, .int .i64 p.off, .string p.s] 30))
  have Hp := Lib.hid (alloc_new' (w.alloc (.cells #[.pointer (some ⟨hb, 0, none⟩)] 80)) (.cells #[.int .i64 p.f, .int .i64 p.t, .int .i64 p.pr, .int .i64 p.ttl, .int .i64 p.id, .bool p.df, .bool p.mf, .int .i64 p.off, .string p.s] 30) (w.heap.size + 1) (by simp))
  have HB := Lib.hid (below_alloc (o := .cells #[.int .i64 p.f, .int .i64 p.t, .int .i64 p.pr, .int .i64 p.ttl, .int .i64 p.id, .bool p.df, .bool p.mf, .int .i64 p.off, .string p.s] 30) HB1)
  have HH2 := Lib.hid (HH.out.below HB.out)
  clear HB1 Hx0
  have HF : Hid (∀ (k : Nat) (W : World), Below ((w.alloc (.cells #[.pointer (some ⟨hb, 0, none⟩)] 80)).alloc (.cells #[.int .i64 p.f, .int .i64 p.t, .int .i64 p.pr, .int .i64 p.ttl, .int .i64 p.id, .bool p.df, .bool p.mf, .int .i64 p.off, .string p.s] 30)).heap.size ((w.alloc (.cells #[.pointer (some ⟨hb, 0, none⟩)] 80)).alloc (.cells #[.int .i64 p.f, .int .i64 p.t, .int .i64 p.pr, .int .i64 p.ttl, .int .i64 p.id, .bool p.df, .bool p.mf, .int .i64 p.off, .string p.s] 30)) W → k < p.s.size → Calls Try.prog 60 #[.int .i64 (p.off + (k : Int)), .pointer (some ⟨w.heap.size, 0, none⟩), .pointer (some ⟨w.heap.size + 1, 0, none⟩)] W fun e w' => e = .returned (.bool (differsB H p (p.off.toNat + k))) ∧ Below W.heap.size W w') :=
    Lib.hid fun k W hW hk => by
      have := differs_any H p (o + k) w.heap.size (w.heap.size + 1) hb Ab cb Ah ch W (bblock hW Hx.out) (bblock hW Hp.out) (HH2.out.below hW) HLEN.out (by omega) (by omega) (by omega) (by omega)
      rw [show ((o + k : Nat) : Int) = p.off + (k : Int) by omega] at this
      rw [show p.off.toNat = o by omega]; exact this
  have c3 : 0 ≤ p.off := h0
  have c1 : p.off + (p.s.size : Int) ≤ 1000000 := hm
  clear hm h0 ho
  obtain ⟨E, hE⟩ : ∃ E, H.ended = E := ⟨_, rfl⟩
  obtain ⟨L, hL⟩ : ∃ L, H.by_.length = L := ⟨_, rfl⟩
  obtain ⟨N, hN⟩ : ∃ N, H.en = N := ⟨_, rfl⟩
  obtain ⟨M, hM⟩ : ∃ M, p.mf = M := ⟨_, rfl⟩
  rw [hN] at he
  have H1 := Lib.hid hE; have H2 := Lib.hid hL; have H3 := Lib.hid hN; have H4 := Lib.hid hM
  obtain ⟨he1, he2⟩ := he
  clear hE hL hN hM
  go_enter Try.func35, Try.ntmps35
  go_wp2_with fail
  generalize hW1 : ((w.alloc (.cells #[.pointer (some ⟨hb, 0, none⟩)] 80)).alloc (.cells #[.int .i64 p.f, .int .i64 p.t, .int .i64 p.pr, .int .i64 p.ttl, .int .i64 p.id, .bool p.df, .bool p.mf, .int .i64 p.off, .string p.s] 30)) = W1 at *
  have HW1 := Lib.hid hW1; clear hW1
  go_loopw [7] (fun i wr => ∃ k : Nat, k ≤ p.s.size ∧ i = .int .i64 (p.off + (k : Int)) ∧ diffAny H p k = false ∧ Below W1.heap.size W1 wr) (fun i _ => (p.off + p.s.size - intOf i).toNat)
  case atStart => exact ⟨0, by omega, by simp, rfl, Below.refl _ _⟩
  case round =>
    obtain ⟨k, hk, rfl, hd, HR⟩ := hrel
    have HD := Lib.hid hd; clear hd
    by_cases hlt2 : k < p.s.size
    · have hc : decide (p.off + (k : Int) < p.off + (p.s.size : Int)) = true := by simp; omega
      have k0 : (0 : Int) ≤ (k : Int) := by omega
      have HFk := Lib.hid fun W hW => HF.out k W hW hlt2
      cases hq : differsB H p (p.off.toNat + k) with
      | true =>
        rw [hq] at HFk
        have HQ := Lib.hid hq; clear hq
        go_wp2_with (go_at_call 60; refine (HFk.out _ HR).mono ?_; rintro e w' ⟨rfl, hb⟩)
        go_ret
        refine ⟨?_, below_call HB.out (below_call HR hb)⟩
        have : conflB H p = true := by unfold conflB; rw [diffAny_true hlt2 HQ.out]; rfl
        rw [this]; rfl
      | false =>
        rw [hq] at HFk
        have HQ := Lib.hid hq; clear hq
        go_wp2_with (go_at_call 60; refine (HFk.out _ HR).mono ?_; rintro e w' ⟨rfl, hb⟩)
        exact ⟨⟨k + 1, by omega, by go_num, diffAny_succ HD.out HQ.out, below_call HR hb⟩, by simp [intOf]; omega⟩
    · obtain rfl : k = p.s.size := by omega
      have hc : decide (p.off + (p.s.size : Int) < p.off + (p.s.size : Int)) = false := by simp
      have HH3 := Lib.hid (HH2.out.below HR)
      have Hh := Lib.hid HH3.out.1
      have Hpp := Lib.hid (bblock HR Hp.out)
      have Hxx := Lib.hid (bblock HR Hx.out)
      have qx := (cell_of_box Hxx.out).1
      have qh2 := (cell_of_block (k := 2) Hh.out rfl).1; have qh5 := (cell_of_block (k := 5) Hh.out rfl).1; have qh6 := (cell_of_block (k := 6) Hh.out rfl).1
      have qp6 := (cell_of_block (k := 6) Hpp.out rfl).1
      rw [H2.out] at qh2; rw [H1.out] at qh5; rw [H3.out] at qh6; rw [H4.out] at qp6
      have hres : conflB H p = ((E && decide (N < p.off + p.s.size)) || (!M && ((E && decide (p.off + p.s.size ≠ N)) || decide (p.off + p.s.size < (L : Int))))) := by
        unfold conflB; rw [HD.out, H1.out, H2.out, H3.out, H4.out]; rfl
      have HRES := Lib.hid hres
      have HBB := Lib.hid (below_call HB.out HR)
      clear hres HF HH HH2 HH3 Hh Hpp Hxx HR HD HW1 HB Hx Hp
      cases E <;> cases M
      all_goals
        go_wp2_with fail
      all_goals
        go_ret
        refine ⟨?_, HBB.out⟩
        rw [HRES.out]
        refine ret_bool ?_
      all_goals first | (simp; done) | (simp; omega) | (simp; rw [‹p.off + (p.s.size : Int) = N›]; simp)
/-- is the datagram whole? -/
def wholeB (H : Hf) : Bool := H.ended && decide (H.cnt = H.en)
set_option maxHeartbeats 2000000 in
theorem whole_any (H : Hf) (hb : Nat) (Ab : Option Addr) (cb : Nat) (Ah : Option Addr) (ch : Nat) (w : World) (hH : HalfB w hb H Ab cb Ah ch) :
    Calls Try.prog 38 #[.pointer (some ⟨hb, 0, none⟩)] w fun e w' => e = .returned (.bool (wholeB H)) ∧ Below w.heap.size w w' := by
  have Hh := Lib.hid hH.1; clear hH
  have qh4 := (cell_of_block (k := 4) Hh.out rfl).1; have qh5 := (cell_of_block (k := 5) Hh.out rfl).1; have qh6 := (cell_of_block (k := 6) Hh.out rfl).1
  unfold wholeB
  generalize H.ended = E at *
  generalize H.cnt = C at *
  generalize H.en = N at *
  clear Hh
  cases E
  all_goals
    go_enter Try.func38, Try.ntmps38
    go_wp2_with fail
    go_quiet (fail)
    go_wp2_with fail
    go_ret
    refine ⟨ret_bool ?_, below_drewN (Below.refl _ _) _⟩
    first | rfl | (rw [Bool.eq_iff_iff]; simp)
theorem stN_only {a : World} {B : Nat} : ∀ (vs : List Value) {W : World} (k : Nat) (_ : a.grownBy W (some B)), a.grownBy (stN W B k vs) (some B)
  | [], _, _, h => h
  | v :: vs, _, k, h => stN_only vs (k + 1) (only_set h (.inl rfl) v)
theorem sl_nil (W : World) (T : TypeId) : Sl W (.slice none 0 0) T [] := ⟨rfl, .inl ⟨rfl, rfl⟩⟩
/-- what a rejected datagram holds -/
def pk0 : Pk := { f := 0, t := 0, pr := 0, ttl := 0, id := 0, df := false, mf := false, off := 0, s := ⟨#[]⟩ }
def rejF (H : Hf) : Hf := { start := H.start, rej := true, by_ := [], hv := [], cnt := 0, ended := false, en := 0, started := false, first := pk0 }
set_option maxHeartbeats 2000000 in
theorem reject_any (H : Hf) (hb : Nat) (Ab : Option Addr) (cb : Nat) (Ah : Option Addr) (ch : Nat) (w : World) (hH : HalfB w hb H Ab cb Ah ch) :
    Calls Try.prog 36 #[.pointer (some ⟨hb, 0, none⟩)] w fun e w' => e = .returned (.tuple #[]) ∧ HalfB w' hb (rejF H) none 0 none 0 ∧ w.grownBy w' (some hb) := by
  have Hh := Lib.hid hH.1; clear hH
  have qh0 := (cell_of_block (k := 0) Hh.out rfl).1; have zh0 := (cell_of_block (k := 0) Hh.out rfl).2; have qh1 := (cell_of_block (k := 1) Hh.out rfl).1; have zh1 := (cell_of_block (k := 1) Hh.out rfl).2; have qh2 := (cell_of_block (k := 2) Hh.out rfl).1; have zh2 := (cell_of_block (k := 2) Hh.out rfl).2; have qh3 := (cell_of_block (k := 3) Hh.out rfl).1; have zh3 := (cell_of_block (k := 3) Hh.out rfl).2; have qh4 := (cell_of_block (k := 4) Hh.out rfl).1; have zh4 := (cell_of_block (k := 4) Hh.out rfl).2; have qh5 := (cell_of_block (k := 5) Hh.out rfl).1; have zh5 := (cell_of_block (k := 5) Hh.out rfl).2; have qh6 := (cell_of_block (k := 6) Hh.out rfl).1; have zh6 := (cell_of_block (k := 6) Hh.out rfl).2; have qh7 := (cell_of_block (k := 7) Hh.out rfl).1; have zh7 := (cell_of_block (k := 7) Hh.out rfl).2; have qh8 := (cell_of_block (k := 8) Hh.out rfl).1; have zh8 := (cell_of_block (k := 8) Hh.out rfl).2; have qh9 := (cell_of_block (k := 9) Hh.out rfl).1; have zh9 := (cell_of_block (k := 9) Hh.out rfl).2; have qh10 := (cell_of_block (k := 10) Hh.out rfl).1; have zh10 := (cell_of_block (k := 10) Hh.out rfl).2; have qh11 := (cell_of_block (k := 11) Hh.out rfl).1; have zh11 := (cell_of_block (k := 11) Hh.out rfl).2; have qh12 := (cell_of_block (k := 12) Hh.out rfl).1; have zh12 := (cell_of_block (k := 12) Hh.out rfl).2; have qh13 := (cell_of_block (k := 13) Hh.out rfl).1; have zh13 := (cell_of_block (k := 13) Hh.out rfl).2; have qh14 := (cell_of_block (k := 14) Hh.out rfl).1; have zh14 := (cell_of_block (k := 14) Hh.out rfl).2; have qh15 := (cell_of_block (k := 15) Hh.out rfl).1; have zh15 := (cell_of_block (k := 15) Hh.out rfl).2; have qh16 := (cell_of_block (k := 16) Hh.out rfl).1; have zh16 := (cell_of_block (k := 16) Hh.out rfl).2; have lt_h := blk_lt Hh.out
  go_enter Try.func36, Try.ntmps36
  go_wp2_with fail
  go_end0
  have HZ := stN_all [.int .i64 H.start, .bool true, .slice none 0 0, .slice none 0 0, .int .i64 0, .bool false, .int .i64 0, .bool false, .int .i64 0, .int .i64 0, .int .i64 0, .int .i64 0, .int .i64 0, .bool false, .bool false, .int .i64 0, .string ⟨#[]⟩] Hh.out rfl
  exact ⟨rfl, ⟨HZ, sl_nil _ _, sl_nil _ _⟩, stN_only (B := hb) [.int .i64 H.start, .bool true, .slice none 0 0, .slice none 0 0, .int .i64 0, .bool false, .int .i64 0, .bool false, .int .i64 0, .int .i64 0, .int .i64 0, .int .i64 0, .int .i64 0, .bool false, .bool false, .int .i64 0, .string ⟨#[]⟩] 0 (World.grownBy.refl w _)⟩
end Go.Proofs.Ytmeldgnjgogacaa.Re
