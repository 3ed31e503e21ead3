/-
  Reassembly: the table and Put (several texts in one).
-/
import Derived.Test.YtmgjcjacoegocaaGreatDoorRows
import Derived.Test.YtmgjcjacoegocaaGreatDoorBase1
import Derived.MapKept
import Derived.WalkKit
import Derived.Test.YtmgjcjacoegocaaGreatDoorPkM
import Derived.WalkMore
import Derived.Lib.Hide
import Derived.Deep.QuietTactic
import Derived.BigQuiet
import Derived.Deep.Cut
import Derived.Deep.DeepCutAuto
import Derived.Test.YtmgjcjacoegocaaGreatDoorStore
import Derived.Lib.AppendZeros
import Derived.Laws.AppendOwn
import Derived.StillTailTactics
import Derived.RegionTactic
import Derived.BigRegion
import Derived.IntWalk
import Derived.Lib.SliceRun
import Derived.Lib.LazyBuf
import Derived.Shelf.Abstract
import Derived.Test.YtmgjcjacoegocaaGreatDoorMapInt
import Derived.Deep.AppendLies
import Derived.ChangeAlike
import Derived.Deep.RegionLaw
import Derived.Deep.RegionLawGrows
namespace Go.Proofs.YtmgjcjacoegocaaGreatDoor.Re
set_option maxRecDepth 100000
open Go.RowKit Go.Proofs.YtmgjcjacoegocaaGreatDoor.Wire

/-- a key -/
structure Ky where
  f : Int
  t : Int
  p : Int
  i : Int
deriving DecidableEq
def Ky.val (k : Ky) : Value := .agg #[.int .i64 k.f, .int .i64 k.t, .int .i64 k.p, .int .i64 k.i]
theorem eqKy (a b : Ky) : ∀ w : World, (Op.equalIn 10000 128 (.agg #[.int .i64 a.f, .int .i64 a.t, .int .i64 a.p, .int .i64 a.i]) (.agg #[.int .i64 b.f, .int .i64 b.t, .int .i64 b.p, .int .i64 b.i])).run Tryz.prog w = .ok (decide (a = b)) w := by
  intro w
  have he : decide (a = b) = decide (a.f = b.f ∧ a.t = b.t ∧ a.p = b.p ∧ a.i = b.i) := by
    apply decide_eq_decide.2
    constructor
    · rintro rfl; exact ⟨rfl, rfl, rfl, rfl⟩
    · rintro ⟨h1, h2, h3, h4⟩; cases a; cases b; simp_all
  rw [he]
  go_simp
  by_cases h0 : a.f = b.f
  case neg => simp [h0]
  by_cases h1 : a.t = b.t
  case neg => simp [h0, h1]
  by_cases h2 : a.p = b.p
  case neg => simp [h0, h1, h2]
  by_cases h3 : a.i = b.i <;> simp [h0, h1, h2, h3]
theorem checkKy (e : Bool) (k : Ky) (w : World) : (Instr.checkKey e 10000 128 k.val).run Tryz.prog w = .ok () w := by kernel_rfl
/-- the entries of a map: keys ks, values vs, in the order in which they were laid -/
def Ents (es : Array MapEntry) (ks : List Ky) (vs : List Value) : Prop := es.toList.map (·.key) = ks.map Ky.val ∧ es.toList.map (·.val) = vs
/-- where a key stands -/
def at? (k : Ky) (ks : List Ky) : Option Nat := ks.findIdx? (fun x => decide (k = x))
theorem run_asking (w : World) (k : Ky) : ∀ (ks : List Ky) (l : List MapEntry) (vs : List Value) (i : Nat), l.map (·.key) = ks.map Ky.val → l.map (·.val) = vs →
    (Instr.findAsking 128 k.val l i).run Tryz.prog w = .ok ((at? k ks).bind fun j => (vs[j]?).map fun v => (i + j, v)) w
  | [], l, vs, i, h1, h2 => by
    have : l = [] := by simpa using h1
    subst this; rfl
  | x :: ks, l, vs, i, h1, h2 => by
    cases l with
    | nil => simp at h1
    | cons e l =>
      simp only [List.map_cons, List.cons.injEq] at h1
      obtain ⟨he, h1⟩ := h1
      subst h2
      have hq : (Op.equal 128 k.val e.key).run Tryz.prog w = .ok (decide (k = x)) w := by rw [he]; exact eqKy k x w
      unfold Instr.findAsking
      rw [Sem.run_bind, hq]
      by_cases hk : k = x
      · subst hk
        simp only [Result.andThen, decide_true, if_true, at?, List.findIdx?_cons, Option.bind_some, List.map_cons, List.getElem?_cons_zero, Option.map_some, Nat.add_zero]; rfl
      · have ih := run_asking w k ks l (l.map (·.val)) (i + 1) h1 rfl
        simp only [Result.andThen, hk, decide_false, Bool.false_eq_true, if_false]
        rw [ih]
        congr 1
        unfold at?
        rw [List.findIdx?_cons]
        simp only [hk, decide_false, Bool.false_eq_true, if_false]
        cases List.findIdx? (fun y => decide (k = y)) ks with
        | none => rfl
        | some j => simp only [Option.bind_some, Option.map_some, List.map_cons, List.getElem?_cons_succ]; rw [show i + 1 + j = i + (j + 1) by omega]
theorem underK : ∃ fs, Tryz.prog.underlying 128 = some (.struct fs) := ⟨_, Tryz.underlying128⟩
theorem run_findKey_ky (w : World) (k : Ky) {es : Array MapEntry} {ks : List Ky} {vs : List Value} (h : Ents es ks vs) :
    (Instr.findKey 128 k.val es.toList).run Tryz.prog w = .ok ((at? k ks).bind fun j => (vs[j]?).map fun v => (j, v)) w := by
  obtain ⟨fs, hfs⟩ := underK
  have key := run_asking w k ks es.toList vs 0 h.1 h.2
  simp only [Nat.zero_add] at key
  cases hl : es.toList with
  | nil =>
    have hk : ks = [] := by have := h.1; rw [hl] at this; simpa using this.symm
    subst hk
    exact Go.MapKept.run_findKey hfs rfl
  | cons e l =>
    rw [hl] at key
    rw [← key]
    simp [Instr.findKey, run_underlying hfs, Result.andThen, Instr.findNow, Instr.sameNow]
theorem at_none {k : Ky} {ks : List Ky} (h : k ∉ ks) : at? k ks = none := by
  unfold at?
  rw [List.findIdx?_eq_none_iff]
  intro x hx
  simp only [decide_eq_false_iff_not]
  rintro rfl; exact h hx
theorem at_some {k : Ky} {ks : List Ky} (hn : ks.Nodup) {j : Nat} (h : ks[j]? = some k) : at? k ks = some j := by
  unfold at?
  obtain ⟨hj, rfl⟩ := List.getElem?_eq_some_iff.1 h
  rw [List.findIdx?_eq_some_iff_getElem]
  refine ⟨hj, by simp, fun i hi => ?_⟩
  simp only [decide_eq_true_eq]
  intro e
  exact (List.pairwise_iff_getElem.1 hn) i j (by omega) hj hi e.symm
def tyM : TypeId := 123
theorem underM : Tryz.prog.underlying tyM = some (.map 128 129) := Tryz.underlying123
theorem zeroH (w : World) : (zeroValue 129).run Tryz.prog w = .ok (.pointer none) w := by kernel_rfl
/-- a look-up -/
theorem run_lookup_ky {W : World} {r clk : Nat} {es : Array MapEntry} {ks : List Ky} {vs : List Value} (k : Ky) (c : Bool) (hb : W.heap[r]? = some (.map es clk)) (h : Ents es ks vs) :
    (Instr.lookup tyM (.map (some r)) k.val c).run Tryz.prog W = .ok (let u := ((at? k ks).bind fun j => vs[j]?); if c then .tuple #[u.getD (.pointer none), .bool u.isSome] else u.getD (.pointer none)) W := by
  unfold Instr.lookup
  simp only [Sem.run_bind, run_underlying underM, Result.andThen, Go.MapKept.run_getObj_map hb, checkKy, Sem.run_pure]
  rw [run_findKey_ky W k h]
  cases ha : at? k ks with
  | none => simp only [Option.bind_none, Sem.run_bind, zeroH, Result.andThen, Sem.run_pure]; cases c <;> rfl
  | some j => cases hv : vs[j]? with
    | none => simp [Result.andThen, hv]
    | some v => simp [hv]
/-- a new key -/
theorem run_update_ky {W : World} {r clk : Nat} {es : Array MapEntry} {ks : List Ky} {vs : List Value} (k : Ky) (v : Value) (hb : W.heap[r]? = some (.map es clk)) (h : Ents es ks vs) (hk : k ∉ ks) :
    (Instr.mapUpdate tyM (.map (some r)) k.val v).run Tryz.prog W = .ok () { W with heap := W.heap.setIfInBounds r (.map (es.push { key := k.val, val := v, born := clk }) (clk + 1)) } := by
  unfold Instr.mapUpdate
  simp [run_underlying underM, Go.MapKept.run_getObj_map hb, checkKy, run_findKey_ky W k h, at_none hk, Go.MapKept.run_setObj_map _ hb, Result.andThen]
/-- a key struck out -/
theorem run_delete_ky {W : World} {r clk : Nat} {es : Array MapEntry} {ks : List Ky} {vs : List Value} (k : Ky) (ty : TypeId) (hb : W.heap[r]? = some (.map es clk)) (h : Ents es ks vs) (hn : ks.Nodup) {j : Nat} (hj : ks[j]? = some k) :
    (Builtin.delete_ #[tyM, 128] ty #[.map (some r), k.val]).run Tryz.prog W = .ok (.tuple #[]) { W with heap := W.heap.setIfInBounds r (.map (es.eraseIdxIfInBounds j) clk) } := by
  have hl : vs.length = ks.length := by
    have e1 := congrArg List.length h.1; have e2 := congrArg List.length h.2
    simp at e1 e2; omega
  obtain ⟨v, hv⟩ : ∃ v, vs[j]? = some v := ⟨vs[j]'(by rw [hl]; exact (List.getElem?_eq_some_iff.1 hj).1), List.getElem?_eq_getElem _⟩
  unfold Builtin.delete_
  simp [run_underlying underM, Go.MapKept.run_getObj_map hb, checkKy, run_findKey_ky W k h, at_some hn hj, hv, Go.MapKept.run_setObj_map _ hb, Result.andThen]
theorem Ents.push {es : Array MapEntry} {ks : List Ky} {vs : List Value} (h : Ents es ks vs) (k : Ky) (v : Value) (b : Nat) : Ents (es.push { key := k.val, val := v, born := b }) (ks ++ [k]) (vs ++ [v]) := by
  obtain ⟨h1, h2⟩ := h
  constructor <;> simp [h1, h2]
theorem map_erase {α β : Type} (f : α → β) : ∀ (l : List α) (j : Nat), (l.eraseIdx j).map f = (l.map f).eraseIdx j
  | [], _ => rfl
  | _ :: _, 0 => rfl
  | x :: l, j + 1 => by simp [map_erase f l j]
theorem Ents.erase {es : Array MapEntry} {ks : List Ky} {vs : List Value} (h : Ents es ks vs) (j : Nat) : Ents (es.eraseIdxIfInBounds j) (ks.eraseIdx j) (vs.eraseIdx j) := by
  obtain ⟨h1, h2⟩ := h
  subst h2
  have e : (es.eraseIdxIfInBounds j).toList = es.toList.eraseIdx j := by simp
  constructor
  · rw [e, map_erase, h1, map_erase]
  · rw [e, map_erase]
end Go.Proofs.YtmgjcjacoegocaaGreatDoor.Re

namespace Go.Proofs.YtmgjcjacoegocaaGreatDoor.Re
set_option maxRecDepth 100000
open Go.RowKit Go.Proofs.YtmgjcjacoegocaaGreatDoor.Wire
open Go.Proofs.YtmgjcjacoegocaaGreatDoor.Ip (Pk)

/-- an incomplete datagram: bytes, which of them are there, how many -/
structure Hf where
  start : Int
  rej : Bool
  by_ : List UInt8
  hv : List Bool
  cnt : Int
  ended : Bool
  en : Int
  started : Bool
  first : Pk
def byC (l : List UInt8) : List Value := l.map fun b => .int .u8 (b.toNat : Int)
def boC (l : List Bool) : List Value := l.map .bool
/-- a slice reads as a list of one-cell elements -/
def Sl (W : World) (v : Value) (T : TypeId) (xs : List Value) : Prop := W.ownsRow 0 T 1 v xs.length xs
theorem Sl.cell {W : World} {g n c k : Nat} {T : TypeId} {xs : List Value} {u : Value} (h : Sl W (.slice (some ⟨g, 0, none⟩) n c) T xs) (hk : xs[k]? = some u) : W.cell? ⟨g, k, none⟩ = some u ∧ W.frozen? ⟨g, k, none⟩ = false := by
  rcases h.2 with ⟨e, -⟩ | ⟨g', cap, cur, e, -, hg, hn, -, hs, ht⟩
  · cases e
  · cases e
    refine cell_of_block hg ?_
    rw [← ht, List.getElem?_take] at hk
    split at hk
    · simpa using hk
    · cases hk
theorem Sl.addr {W : World} {A : Option Addr} {n c : Nat} {T : TypeId} {xs : List Value} (h : Sl W (.slice A n c) T xs) (hx : 0 < xs.length) : ∃ g, A = some ⟨g, 0, none⟩ := by
  rcases h.2 with ⟨e, h0⟩ | ⟨g', cap, cur, e, -⟩
  · omega
  · cases e; exact ⟨g', rfl⟩
/-- does byte at of the datagram, which the fragment p bears too, differ? -/
def differsB (H : Hf) (p : Pk) (k : Nat) : Bool := (H.hv.getD k false) && (H.by_.getD k 0 != p.s.data.toList.getD (k - p.off.toNat) 0)
/-- an incomplete datagram in block hb -/
def HalfB (W : World) (hb : Nat) (H : Hf) (Ab : Option Addr) (cb : Nat) (Ah : Option Addr) (ch : Nat) : Prop :=
  W.heap[hb]? = some (.cells #[.int .i64 H.start, .bool H.rej, .slice Ab H.by_.length cb, .slice Ah H.hv.length ch, .int .i64 H.cnt, .bool H.ended, .int .i64 H.en, .bool H.started, .int .i64 H.first.f, .int .i64 H.first.t, .int .i64 H.first.pr, .int .i64 H.first.ttl, .int .i64 H.first.id, .bool H.first.df, .bool H.first.mf, .int .i64 H.first.off, .string H.first.s] 133) ∧ Sl W (.slice Ab H.by_.length cb) 5 (byC H.by_) ∧ Sl W (.slice Ah H.hv.length ch) 4 (boC H.hv)
theorem u8_ne (a b : UInt8) : ((a.toNat : Int) != (b.toNat : Int)) = (a != b) := by
  rw [Bool.eq_iff_iff, bne_iff_ne, bne_iff_ne]
  constructor
  · intro h e; subst e; exact h rfl
  · intro h e; exact h (UInt8.toNat_inj.1 (by omega))
set_option maxHeartbeats 4000000 in
theorem differs_any (H : Hf) (p : Pk) (k : Nat) (bx px hb : Nat) (Ab : Option Addr) (cb : Nat) (Ah : Option Addr) (ch : Nat) (w : World) (hx : w.heap[bx]? = some (.cells #[.pointer (some ⟨hb, 0, none⟩)] 129)) (hpx : w.heap[px]? = some (.cells #[.int .i64 p.f, .int .i64 p.t, .int .i64 p.pr, .int .i64 p.ttl, .int .i64 p.id, .bool p.df, .bool p.mf, .int .i64 p.off, .string p.s] 48))
    (hH : HalfB w hb H Ab cb Ah ch) (hl : H.hv.length = H.by_.length) (hk : p.off ≤ (k : Int)) (h0 : 0 ≤ p.off) (hk2 : (k : Int) < p.off + p.s.size) (hm : (k : Int) ≤ 1000000) :
    Calls Tryz.prog 92 #[.int .i64 (k : Int), .pointer (some ⟨bx, 0, none⟩), .pointer (some ⟨px, 0, none⟩)] w fun e w' => e = .returned (.bool (differsB H p k)) ∧ Below w.heap.size w w' := by
  obtain ⟨hh, hSb, hSh⟩ := hH
  have qx := (cell_of_box hx).1
  have Hh := Lib.hid hh; have Hp := Lib.hid hpx; clear hx hh hpx
  have qh2 := (cell_of_block (k := 2) Hh.out rfl).1; have zh2 := (cell_of_block (k := 2) Hh.out rfl).2; have qh3 := (cell_of_block (k := 3) Hh.out rfl).1; have zh3 := (cell_of_block (k := 3) Hh.out rfl).2
  have qp7 := (cell_of_block (k := 7) Hp.out rfl).1; have zp7 := (cell_of_block (k := 7) Hp.out rfl).2; have qp8 := (cell_of_block (k := 8) Hp.out rfl).1; have zp8 := (cell_of_block (k := 8) Hp.out rfl).2
  clear zh2 zh3 zp7 zp8
  by_cases h1 : k < H.by_.length
  · obtain ⟨gb, rfl⟩ := hSb.addr (by simp [byC]; omega)
    obtain ⟨gh, rfl⟩ := hSh.addr (by simp [boC]; omega)
    have e1 : H.by_[k]? = some H.by_[k] := List.getElem?_eq_getElem h1
    have e2 : H.hv[k]? = some (H.hv[k]'(by omega)) := List.getElem?_eq_getElem (by omega)
    have c1 := (hSb.cell (k := k) (u := .int .u8 ((H.by_[k]).toNat : Int)) (by simp [byC, e1])).1
    have c2 := (hSh.cell (k := k) (u := .bool (H.hv[k]'(by omega))) (by simp [boC, e2])).1
    have hd : differsB H p k = ((H.hv[k]'(by omega)) && (H.by_[k] != p.s.data.toList.getD (k - p.off.toNat) 0)) := by
      unfold differsB
      rw [List.getD_eq_getElem?_getD, List.getD_eq_getElem?_getD, e1, e2]; rfl
    rw [hd]; clear hd
    generalize H.by_[k] = x at *
    generalize (H.hv[k]'(by omega)) = y at *
    obtain ⟨o, ho⟩ := Int.eq_ofNat_of_zero_le h0
    obtain ⟨j, hj⟩ : ∃ j, k = o + j := ⟨k - o, by omega⟩
    have hjs : j < p.s.size := by omega
    have hg : p.s.data.toList.getD (k - p.off.toNat) 0 = p.s[j] := by
      rw [show k - p.off.toNat = j by omega]; exact getD_lt _ _ hjs
    rw [hg]; clear hg
    rw [ho] at qp7
    have HJ := Lib.hid hj; clear hj
    clear hSb hSh e1 e2
    have HO := Lib.hid ho; clear ho
    have j1 : (k : Int) - (o : Int) = (j : Int) := by have := HJ.out; omega
    have k0 : (0 : Int) ≤ (k : Int) := by omega
    have k1 : decide ((k : Int) < (H.by_.length : Int)) = true := by simp; omega
    have w1 : IntKind.i64.wrap ((k : Int) - (o : Int)) = (j : Int) := by rw [j1]; exact IntWalk.i64_in _ (by omega)
    have j2 : (0 : Int) ≤ (j : Int) := by omega
    have j3 : (j : Int) < (p.s.size : Int) := by omega
    have k2 : (k : Int) < (H.by_.length : Int) := by omega
    have k3 : (k : Int) < (H.hv.length : Int) := by omega
    clear j1 hk hk2 h0 hm hl
    cases y with
    | false =>
      go_enter Tryz.func92, Tryz.ntmps92
      go_wp2_with fail
      go_quiet (fail)
      go_wp2_with fail
      go_ret
      exact ⟨rfl, below_drewN (Below.refl _ _) _⟩
    | true =>
      go_enter Tryz.func92, Tryz.ntmps92
      go_wp2_with fail
      go_quiet (fail)
      go_wp2_with fail
      go_ret
      exact ⟨by rw [Bool.true_and]; exact ret_bool (u8_ne _ _), below_drewN (Below.refl _ _) _⟩
  · have hd : differsB H p k = false := by
      unfold differsB
      rw [List.getD_eq_getElem?_getD, List.getElem?_eq_none (by omega)]; rfl
    rw [hd]; clear hd
    have k1 : decide ((k : Int) < (H.by_.length : Int)) = false := by simp; omega
    go_enter Tryz.func92, Tryz.ntmps92
    go_wp2_with fail
    go_quiet (fail)
    go_wp2_with fail
    go_ret
    exact ⟨rfl, below_drewN (Below.refl _ _) _⟩
/-- some byte of the fragment differs from what has come -/
def diffAny (H : Hf) (p : Pk) (n : Nat) : Bool := (List.range n).any fun j => differsB H p (p.off.toNat + j)
/-- the fragment conflicts with what has come -/
def conflB (H : Hf) (p : Pk) : Bool := diffAny H p p.s.size || (H.ended && decide (H.en < p.off + p.s.size)) || (!p.mf && ((H.ended && decide (p.off + p.s.size ≠ H.en)) || decide (p.off + p.s.size < (H.by_.length : Int))))
theorem diffAny_zero (H : Hf) (p : Pk) : diffAny H p 0 = false := rfl
theorem diffAny_succ {H : Hf} {p : Pk} {k : Nat} (h : diffAny H p k = false) (hd : differsB H p (p.off.toNat + k) = false) : diffAny H p (k + 1) = false := by
  unfold diffAny at *
  rw [List.range_succ, List.any_append, h]
  simp [hd]
theorem diffAny_true {H : Hf} {p : Pk} {k n : Nat} (hk : k < n) (hd : differsB H p (p.off.toNat + k) = true) : diffAny H p n = true := by
  unfold diffAny
  rw [List.any_eq_true]
  exact ⟨k, by simpa using hk, hd⟩
theorem HalfB.below {W W' : World} {hb : Nat} {H : Hf} {Ab : Option Addr} {cb : Nat} {Ah : Option Addr} {ch : Nat} (h : HalfB W hb H Ab cb Ah ch) (hl : Below W.heap.size W W') : HalfB W' hb H Ab cb Ah ch := by
  have hg : W.grownBy W' none := ⟨hl.os, hl.tape, hl.output, hl.size, fun i hi _ => hl.block i hi⟩
  exact ⟨bblock hl h.1, World.ownsRow.kept h.2.1 hg (by cases Value.ownBlock (.slice Ab H.by_.length cb) <;> simp), World.ownsRow.kept h.2.2 hg (by cases Value.ownBlock (.slice Ah H.hv.length ch) <;> simp)⟩
set_option maxHeartbeats 4000000 in
theorem conflicts_any (H : Hf) (p : Pk) (hb : Nat) (Ab : Option Addr) (cb : Nat) (Ah : Option Addr) (ch : Nat) (w : World) (hH : HalfB w hb H Ab cb Ah ch) (hlen : H.hv.length = H.by_.length) (h0 : 0 ≤ p.off) (hm : p.off + p.s.size ≤ 1000000) (he : 0 ≤ H.en ∧ H.en ≤ 1000000) :
    Calls Tryz.prog 47 #[.pointer (some ⟨hb, 0, none⟩), .agg #[.int .i64 p.f, .int .i64 p.t, .int .i64 p.pr, .int .i64 p.ttl, .int .i64 p.id, .bool p.df, .bool p.mf, .int .i64 p.off, .string p.s]] w fun e w' => e = .returned (.bool (conflB H p)) ∧ Below w.heap.size w w' := by
  obtain ⟨o, ho⟩ := Int.eq_ofNat_of_zero_le h0
  have HH := Lib.hid hH; clear hH
  have HLEN := Lib.hid hlen; clear hlen
  have hlt := blk_lt HH.out.1
  have Hx0 := Lib.hid (alloc_new w (.cells #[.pointer (some ⟨hb, 0, none⟩)] 129))
  have HB1 := below_alloc (o := .cells #[.pointer (some ⟨hb, 0, none⟩)] 129) (Below.refl w.heap.size w)
  have Hx := Lib.hid (block_alloc Hx0.out (.cells #[.int .i64 p.f, .int .i64 p.t, .int .i64 p.pr, .int .i64 p.ttl, .int .i64 p.id, .bool p.df, .bool p.mf, .int .i64 p.off, .string p.s] 48))
  have Hp := Lib.hid (alloc_new' (w.alloc (.cells #[.pointer (some ⟨hb, 0, none⟩)] 129)) (.cells #[.int .i64 p.f, .int .i64 p.t, .int .i64 p.pr, .int .i64 p.ttl, .int .i64 p.id, .bool p.df, .bool p.mf, .int .i64 p.off, .string p.s] 48) (w.heap.size + 1) (by simp))
  have HB := Lib.hid (below_alloc (o := .cells #[.int .i64 p.f, .int .i64 p.t, .int .i64 p.pr, .int .i64 p.ttl, .int .i64 p.id, .bool p.df, .bool p.mf, .int .i64 p.off, .string p.s] 48) HB1)
  have HH2 := Lib.hid (HH.out.below HB.out)
  clear HB1 Hx0
  have HF : Hid (∀ (k : Nat) (W : World), Below ((w.alloc (.cells #[.pointer (some ⟨hb, 0, none⟩)] 129)).alloc (.cells #[.int .i64 p.f, .int .i64 p.t, .int .i64 p.pr, .int .i64 p.ttl, .int .i64 p.id, .bool p.df, .bool p.mf, .int .i64 p.off, .string p.s] 48)).heap.size ((w.alloc (.cells #[.pointer (some ⟨hb, 0, none⟩)] 129)).alloc (.cells #[.int .i64 p.f, .int .i64 p.t, .int .i64 p.pr, .int .i64 p.ttl, .int .i64 p.id, .bool p.df, .bool p.mf, .int .i64 p.off, .string p.s] 48)) W → k < p.s.size → Calls Tryz.prog 92 #[.int .i64 (p.off + (k : Int)), .pointer (some ⟨w.heap.size, 0, none⟩), .pointer (some ⟨w.heap.size + 1, 0, none⟩)] W fun e w' => e = .returned (.bool (differsB H p (p.off.toNat + k))) ∧ Below W.heap.size W w') :=
    Lib.hid fun k W hW hk => by
      have := differs_any H p (o + k) w.heap.size (w.heap.size + 1) hb Ab cb Ah ch W (bblock hW Hx.out) (bblock hW Hp.out) (HH2.out.below hW) HLEN.out (by omega) (by omega) (by omega) (by omega)
      rw [show ((o + k : Nat) : Int) = p.off + (k : Int) by omega] at this
      rw [show p.off.toNat = o by omega]; exact this
  have c3 : 0 ≤ p.off := h0
  have c1 : p.off + (p.s.size : Int) ≤ 1000000 := hm
  clear hm h0 ho
  obtain ⟨E, hE⟩ : ∃ E, H.ended = E := ⟨_, rfl⟩
  obtain ⟨L, hL⟩ : ∃ L, H.by_.length = L := ⟨_, rfl⟩
  obtain ⟨N, hN⟩ : ∃ N, H.en = N := ⟨_, rfl⟩
  obtain ⟨M, hM⟩ : ∃ M, p.mf = M := ⟨_, rfl⟩
  rw [hN] at he
  have H1 := Lib.hid hE; have H2 := Lib.hid hL; have H3 := Lib.hid hN; have H4 := Lib.hid hM
  obtain ⟨he1, he2⟩ := he
  clear hE hL hN hM
  go_enter Tryz.func47, Tryz.ntmps47
  go_wp2_with fail
  generalize hW1 : ((w.alloc (.cells #[.pointer (some ⟨hb, 0, none⟩)] 129)).alloc (.cells #[.int .i64 p.f, .int .i64 p.t, .int .i64 p.pr, .int .i64 p.ttl, .int .i64 p.id, .bool p.df, .bool p.mf, .int .i64 p.off, .string p.s] 48)) = W1 at *
  have HW1 := Lib.hid hW1; clear hW1
  go_loopw [7] (fun i wr => ∃ k : Nat, k ≤ p.s.size ∧ i = .int .i64 (p.off + (k : Int)) ∧ diffAny H p k = false ∧ Below W1.heap.size W1 wr) (fun i _ => (p.off + p.s.size - intOf i).toNat)
  case atStart => exact ⟨0, by omega, by simp, rfl, Below.refl _ _⟩
  case round =>
    obtain ⟨k, hk, rfl, hd, HR⟩ := hrel
    have HD := Lib.hid hd; clear hd
    by_cases hlt2 : k < p.s.size
    · have hc : decide (p.off + (k : Int) < p.off + (p.s.size : Int)) = true := by simp; omega
      have k0 : (0 : Int) ≤ (k : Int) := by omega
      have HFk := Lib.hid fun W hW => HF.out k W hW hlt2
      cases hq : differsB H p (p.off.toNat + k) with
      | true =>
        rw [hq] at HFk
        have HQ := Lib.hid hq; clear hq
        go_wp2_with (go_at_call 92; refine (HFk.out _ HR).mono ?_; rintro e w' ⟨rfl, hb⟩)
        go_ret
        refine ⟨?_, below_call HB.out (below_call HR hb)⟩
        have : conflB H p = true := by unfold conflB; rw [diffAny_true hlt2 HQ.out]; rfl
        rw [this]; rfl
      | false =>
        rw [hq] at HFk
        have HQ := Lib.hid hq; clear hq
        go_wp2_with (go_at_call 92; refine (HFk.out _ HR).mono ?_; rintro e w' ⟨rfl, hb⟩)
        exact ⟨⟨k + 1, by omega, by go_num, diffAny_succ HD.out HQ.out, below_call HR hb⟩, by simp [intOf]; omega⟩
    · obtain rfl : k = p.s.size := by omega
      have hc : decide (p.off + (p.s.size : Int) < p.off + (p.s.size : Int)) = false := by simp
      have HH3 := Lib.hid (HH2.out.below HR)
      have Hh := Lib.hid HH3.out.1
      have Hpp := Lib.hid (bblock HR Hp.out)
      have Hxx := Lib.hid (bblock HR Hx.out)
      have qx := (cell_of_box Hxx.out).1
      have qh2 := (cell_of_block (k := 2) Hh.out rfl).1; have qh5 := (cell_of_block (k := 5) Hh.out rfl).1; have qh6 := (cell_of_block (k := 6) Hh.out rfl).1
      have qp6 := (cell_of_block (k := 6) Hpp.out rfl).1
      rw [H2.out] at qh2; rw [H1.out] at qh5; rw [H3.out] at qh6; rw [H4.out] at qp6
      have hres : conflB H p = ((E && decide (N < p.off + p.s.size)) || (!M && ((E && decide (p.off + p.s.size ≠ N)) || decide (p.off + p.s.size < (L : Int))))) := by
        unfold conflB; rw [HD.out, H1.out, H2.out, H3.out, H4.out]; rfl
      have HRES := Lib.hid hres
      have HBB := Lib.hid (below_call HB.out HR)
      clear hres HF HH HH2 HH3 Hh Hpp Hxx HR HD HW1 HB Hx Hp
      cases E <;> cases M
      all_goals
        go_wp2_with fail
      all_goals
        go_ret
        refine ⟨?_, HBB.out⟩
        rw [HRES.out]
        refine ret_bool ?_
      all_goals first | (simp; done) | (simp; omega) | (simp; rw [‹p.off + (p.s.size : Int) = N›]; simp)
/-- is the datagram whole? -/
def wholeB (H : Hf) : Bool := H.ended && decide (H.cnt = H.en)
set_option maxHeartbeats 2000000 in
theorem whole_any (H : Hf) (hb : Nat) (Ab : Option Addr) (cb : Nat) (Ah : Option Addr) (ch : Nat) (w : World) (hH : HalfB w hb H Ab cb Ah ch) :
    Calls Tryz.prog 50 #[.pointer (some ⟨hb, 0, none⟩)] w fun e w' => e = .returned (.bool (wholeB H)) ∧ Below w.heap.size w w' := by
  have Hh := Lib.hid hH.1; clear hH
  have qh4 := (cell_of_block (k := 4) Hh.out rfl).1; have qh5 := (cell_of_block (k := 5) Hh.out rfl).1; have qh6 := (cell_of_block (k := 6) Hh.out rfl).1
  unfold wholeB
  generalize H.ended = E at *
  generalize H.cnt = C at *
  generalize H.en = N at *
  clear Hh
  cases E
  all_goals
    go_enter Tryz.func50, Tryz.ntmps50
    go_wp2_with fail
    go_quiet (fail)
    go_wp2_with fail
    go_ret
    refine ⟨ret_bool ?_, below_drewN (Below.refl _ _) _⟩
    first | rfl | (rw [Bool.eq_iff_iff]; simp)
theorem stN_only {a : World} {B : Nat} : ∀ (vs : List Value) {W : World} (k : Nat) (_ : a.grownBy W (some B)), a.grownBy (stN W B k vs) (some B)
  | [], _, _, h => h
  | v :: vs, _, k, h => stN_only vs (k + 1) (only_set h (.inl rfl) v)
theorem sl_nil (W : World) (T : TypeId) : Sl W (.slice none 0 0) T [] := ⟨rfl, .inl ⟨rfl, rfl⟩⟩
/-- what a rejected datagram holds -/
def pk0 : Pk := { f := 0, t := 0, pr := 0, ttl := 0, id := 0, df := false, mf := false, off := 0, s := ⟨#[]⟩ }
def rejF (H : Hf) : Hf := { start := H.start, rej := true, by_ := [], hv := [], cnt := 0, ended := false, en := 0, started := false, first := pk0 }
set_option maxHeartbeats 2000000 in
theorem reject_any (H : Hf) (hb : Nat) (Ab : Option Addr) (cb : Nat) (Ah : Option Addr) (ch : Nat) (w : World) (hH : HalfB w hb H Ab cb Ah ch) :
    Calls Tryz.prog 48 #[.pointer (some ⟨hb, 0, none⟩)] w fun e w' => e = .returned (.tuple #[]) ∧ HalfB w' hb (rejF H) none 0 none 0 ∧ w.grownBy w' (some hb) := by
  have Hh := Lib.hid hH.1; clear hH
  have qh0 := (cell_of_block (k := 0) Hh.out rfl).1; have zh0 := (cell_of_block (k := 0) Hh.out rfl).2; have qh1 := (cell_of_block (k := 1) Hh.out rfl).1; have zh1 := (cell_of_block (k := 1) Hh.out rfl).2; have qh2 := (cell_of_block (k := 2) Hh.out rfl).1; have zh2 := (cell_of_block (k := 2) Hh.out rfl).2; have qh3 := (cell_of_block (k := 3) Hh.out rfl).1; have zh3 := (cell_of_block (k := 3) Hh.out rfl).2; have qh4 := (cell_of_block (k := 4) Hh.out rfl).1; have zh4 := (cell_of_block (k := 4) Hh.out rfl).2; have qh5 := (cell_of_block (k := 5) Hh.out rfl).1; have zh5 := (cell_of_block (k := 5) Hh.out rfl).2; have qh6 := (cell_of_block (k := 6) Hh.out rfl).1; have zh6 := (cell_of_block (k := 6) Hh.out rfl).2; have qh7 := (cell_of_block (k := 7) Hh.out rfl).1; have zh7 := (cell_of_block (k := 7) Hh.out rfl).2; have qh8 := (cell_of_block (k := 8) Hh.out rfl).1; have zh8 := (cell_of_block (k := 8) Hh.out rfl).2; have qh9 := (cell_of_block (k := 9) Hh.out rfl).1; have zh9 := (cell_of_block (k := 9) Hh.out rfl).2; have qh10 := (cell_of_block (k := 10) Hh.out rfl).1; have zh10 := (cell_of_block (k := 10) Hh.out rfl).2; have qh11 := (cell_of_block (k := 11) Hh.out rfl).1; have zh11 := (cell_of_block (k := 11) Hh.out rfl).2; have qh12 := (cell_of_block (k := 12) Hh.out rfl).1; have zh12 := (cell_of_block (k := 12) Hh.out rfl).2; have qh13 := (cell_of_block (k := 13) Hh.out rfl).1; have zh13 := (cell_of_block (k := 13) Hh.out rfl).2; have qh14 := (cell_of_block (k := 14) Hh.out rfl).1; have zh14 := (cell_of_block (k := 14) Hh.out rfl).2; have qh15 := (cell_of_block (k := 15) Hh.out rfl).1; have zh15 := (cell_of_block (k := 15) Hh.out rfl).2; have qh16 := (cell_of_block (k := 16) Hh.out rfl).1; have zh16 := (cell_of_block (k := 16) Hh.out rfl).2; have lt_h := blk_lt Hh.out
  go_enter Tryz.func48, Tryz.ntmps48
  go_wp2_with fail
  go_end0
  have HZ := stN_all [.int .i64 H.start, .bool true, .slice none 0 0, .slice none 0 0, .int .i64 0, .bool false, .int .i64 0, .bool false, .int .i64 0, .int .i64 0, .int .i64 0, .int .i64 0, .int .i64 0, .bool false, .bool false, .int .i64 0, .string ⟨#[]⟩] Hh.out rfl
  exact ⟨rfl, ⟨HZ, sl_nil _ _, sl_nil _ _⟩, stN_only (B := hb) [.int .i64 H.start, .bool true, .slice none 0 0, .slice none 0 0, .int .i64 0, .bool false, .int .i64 0, .bool false, .int .i64 0, .int .i64 0, .int .i64 0, .int .i64 0, .int .i64 0, .bool false, .bool false, .int .i64 0, .string ⟨#[]⟩] 0 (World.grownBy.refl w _)⟩
end Go.Proofs.YtmgjcjacoegocaaGreatDoor.Re

namespace Go.Proofs.YtmgjcjacoegocaaGreatDoor.Re
set_option maxRecDepth 100000
open Go.RowKit Go.Proofs.YtmgjcjacoegocaaGreatDoor.Wire

theorem zeroCells_one (z : Value) (hz : z.cells = #[z]) (m : Nat) : Builtin.zeroCells z.cells m = (List.replicate m z).toArray := by
  rw [hz]
  unfold Builtin.zeroCells
  apply Array.ext
  · simp
  · intro i h1 h2
    have : i % 1 = 0 := by omega
    simp [this]
theorem run_zeros_own {P : Program} (w : World) (t tn ty e : TypeId) (i : TypeInfo) (z : Value) (ht : P.underlying t = some (.slice e)) (htn : P.underlying tn = some (.int .i64)) (hi : P.info? e = some i) (hz : i.zero = some z) (hs : i.size = 1) (hb : i.bytes = 1)
    (hzc : z.cells = #[z]) (hz1 : z.oneCell' = true) (v : Value) (n : Nat) (xs : List Value) (hown : w.ownsRow 0 e 1 v n xs) (m : Nat) (h0 : 0 < m) (hm : n + m ≤ 1000000) :
    ∃ g cap w', (Builtin.append_ #[t, tn] ty #[v, .int .i64 (m : Int)]).run P w = .ok (.slice (some ⟨g, 0, none⟩) (n + m) cap) w' ∧ w'.ownsRow 0 e 1 (.slice (some ⟨g, 0, none⟩) (n + m) cap) (n + m) (xs ++ List.replicate m z) ∧ w.grownBy w' v.ownBlock ∧ (v.ownBlock = some g ∨ g = w.heap.size) ∧ g < w'.heap.size := by
  have hlen : (xs ++ List.replicate m z).length = (n + m) * 1 := by rw [List.length_append, hown.1, List.length_replicate]; omega
  have hmne : m ≠ 0 := by omega
  have hw : IntKind.i64.wrap (m : Int) = m := by rw [IntKind.wrap_i64]; omega
  have hneg : ¬ ((m : Int) < 0) := by omega
  have h48i : ¬ (281474976710656 < (m : Int)) := by omega
  have hml : ∀ k, k ≤ 1000000 → k ≤ maxLen := fun k hk => by simp only [maxLen]; omega
  have grown : ∀ (old : Nat), ∀ (row : Option Nat),
      (w.drew.alloc (.cells (xs.toArray ++ (List.replicate m z).toArray ++ Builtin.zeroCells z.cells (grownCap w (n + m) old e - (n + m))) e)).ownsRow 0 e 1
        (.slice (some ⟨w.heap.size, 0, none⟩) (n + m) (grownCap w (n + m) old e)) (n + m) (xs ++ List.replicate m z) ∧
      w.grownBy (w.drew.alloc (.cells (xs.toArray ++ (List.replicate m z).toArray ++ Builtin.zeroCells z.cells (grownCap w (n + m) old e - (n + m))) e)) row := by
    intro old row
    have hge := grownCap_ge w (n + m) old e
    have hcm : grownCap w (n + m) old e ≤ maxLen := grownCap_le_maxLen w (n + m) old e (hml _ hm)
    refine ⟨⟨hlen, .inr ⟨w.heap.size, _, _, rfl, Nat.zero_le _, heap_alloc_new w.drew _, hge, hcm, ?_, ?_⟩⟩, ⟨rfl, rfl, rfl, by simp, fun k hk _ => Below.heap_alloc w.drew _ k hk⟩⟩
    · simp only [Array.size_append, List.size_toArray, size_zeroCells, hzc, hown.1, List.length_replicate]
      simp
      omega
    · simp only [Array.toList_append, List.append_assoc]
      rw [← List.append_assoc, ← hlen]
      exact List.take_left
  rcases hown.2 with ⟨rfl, rfl⟩ | ⟨g, cap, cur, rfl, hbg, hg, hnc, hcm, hcs, htake⟩
  · have hx : xs = [] := List.eq_nil_of_length_eq_zero (by simpa using hown.1)
    subst hx
    have hr := Lib.run_append_nil_zeros (P := P) w t tn ty e i z .i64 .i64 ht htn hi hz m h0 (by omega) (by omega) (by rw [hb]; omega)
    rw [zeroCells_one z hzc m] at hr
    have hgr := grown 0 (Value.ownBlock (.slice none 0 0))
    simp only [Nat.zero_add, List.nil_append, Array.empty_append] at hgr ⊢
    exact ⟨_, _, _, hr, hgr.1, hgr.2, .inr rfl, by simp⟩
  · by_cases hroom : n + m ≤ cap
    · have hfit : n * 1 + (List.replicate m z).length ≤ cur.size := by rw [List.length_replicate]; omega
      have hst := run_storeCells_at P g (n * 1) e (List.replicate m z) 0 cur w hg (by simpa using hfit) (fun u hu => by rw [List.eq_of_mem_replicate hu]; exact hz1)
      simp only [Nat.add_zero] at hst
      have hr : (Builtin.append_ #[t, tn] ty #[.slice (some ⟨g, 0, none⟩) n cap, .int .i64 (m : Int)]).run P w = .ok (.slice (some ⟨g, 0, none⟩) (n + m) cap) (w.setRow g (cur.toList.take (n * 1) ++ List.replicate m z ++ cur.toList.drop (n * 1 + (List.replicate m z).length)).toArray) := by
        have hz2 := zeroCells_one z hzc m
        simp [Builtin.append_, run_underlying ht, run_underlying htn, sizeOf, typeInfo, zeroValue, hi, hz, hs, hb, asInt, asIntOf, hw, hmne, hneg, h48i, hroom, Addr.add_lit, hz2]
        simp at hst
        rw [hst]; rfl
      refine ⟨g, cap, _, hr, ⟨hlen, .inr ⟨g, cap, _, rfl, hbg, setRow_heap w g cur _ e _ hg, hroom, hcm, ?_, ?_⟩⟩, ⟨rfl, rfl, rfl, by simp, fun k _ hk => setRow_other w g k _ (fun e => hk (by simp [Value.ownBlock, e]))⟩, .inl rfl, ?_⟩
      · simp only [List.size_toArray, List.length_append, List.length_take, List.length_drop, Array.length_toList, List.length_replicate]
        omega
      · rw [htake, ← hlen]
        exact List.take_left
      · simpa using blk_lt hg
    · have holds : ∀ j u, xs[j]? = some u → w.cell? ((⟨g, 0, none⟩ : Addr).add j) = some u := hown.cells (g := g) rfl
      have hfit := growslice_fits (need := n + m) (old := cap) (bytes := 1) (by omega) (by omega)
      have hr : (Builtin.append_ #[t, tn] ty #[.slice (some ⟨g, 0, none⟩) n cap, .int .i64 (m : Int)]).run P w = .ok (.slice (some ⟨w.heap.size, 0, none⟩) (n + m) (grownCap w (n + m) cap e)) (w.drew.alloc (.cells (xs.toArray ++ (List.replicate m z).toArray ++ Builtin.zeroCells z.cells (grownCap w (n + m) cap e - (n + m))) e)) := by
        have hz2 := zeroCells_one z hzc m
        have hfit' : ¬ (281474976710656 < Builtin.nextslicecap (n + m) cap) := by omega
        have h63' : ¬ (9223372036854775807 < ((n : Int) + (m : Int))) := by omega
        have hn : ¬ (n + m ≤ cap) := by omega
        have hfo := run_firstCells_some (P := P) w.drew 1 n ⟨g, 0, none⟩ n cap xs hown.1 (by simpa using holds)
        simp [Builtin.append_, run_underlying ht, run_underlying htn, sizeOf, typeInfo, zeroValue, hi, hz, hs, hb, asInt, asIntOf, hw, hmne, hneg, h48i, hn, h63', hfit', Question.forced, hfo, hz2, newRow, grownCap]
      have hgr := grown cap (Value.ownBlock (.slice (some ⟨g, 0, none⟩) n cap))
      exact ⟨_, _, _, hr, hgr.1, hgr.2, .inr rfl, by simp⟩
end Go.Proofs.YtmgjcjacoegocaaGreatDoor.Re

namespace Go.Proofs.YtmgjcjacoegocaaGreatDoor.Re
set_option maxRecDepth 100000
open Go.RowKit Go.Proofs.YtmgjcjacoegocaaGreatDoor.Wire
open Go.Proofs.YtmgjcjacoegocaaGreatDoor.Ip (Pk)

/-- only the blocks in S, and what is new, have changed -/
structure Chg (S : Nat → Prop) (w w' : World) : Prop where
  os : w'.os = w.os
  tape : w'.tape = w.tape
  output : w'.output = w.output
  size : w.heap.size ≤ w'.heap.size
  block : ∀ k, k < w.heap.size → ¬ S k → w'.heap[k]? = w.heap[k]?
theorem Chg.refl (S : Nat → Prop) (w : World) : Chg S w w := ⟨rfl, rfl, rfl, Nat.le_refl _, fun _ _ _ => rfl⟩
theorem Chg.trans {S S' : Nat → Prop} {a b c : World} (h : Chg S a b) (k : Chg S' b c) (hs : ∀ i, S' i → S i ∨ a.heap.size ≤ i) : Chg S a c :=
  ⟨k.os.trans h.os, k.tape.trans h.tape, k.output.trans h.output, Nat.le_trans h.size k.size, fun i hi hn => (k.block i (Nat.lt_of_lt_of_le hi h.size) (fun q => by
    rcases hs i q with q | q
    · exact hn q
    · omega)).trans (h.block i hi hn)⟩
theorem Chg.of_below {S : Nat → Prop} {w w' : World} (h : Below w.heap.size w w') : Chg S w w' := ⟨h.os, h.tape, h.output, h.size, fun k hk _ => h.block k hk⟩
theorem Chg.call {S : Nat → Prop} {a w w' : World} (h : Chg S a w) (hb : Below w.heap.size w w') : Chg S a w' := h.trans (Chg.of_below (S := S) hb) (fun _ q => .inl q)
theorem Chg.alloc {S : Nat → Prop} {a w : World} (h : Chg S a w) (o : Obj) : Chg S a (w.alloc o) := h.call ((Below.refl _ _).alloc (Nat.le_refl _) o)
theorem Chg.drew {S : Nat → Prop} {a w : World} (h : Chg S a w) : Chg S a w.drew := ⟨h.os, h.tape, h.output, h.size, h.block⟩
theorem Chg.drewN {S : Nat → Prop} {a w : World} (h : Chg S a w) (n : Nat) : Chg S a (w.drewN n) := ⟨h.os, h.tape, h.output, h.size, h.block⟩
theorem Chg.grown {S : Nat → Prop} {a w w' : World} {row : Option Nat} (h : Chg S a w) (hg : w.grownBy w' row) (hr : ∀ k, row = some k → S k ∨ a.heap.size ≤ k) : Chg S a w' :=
  h.trans (S' := fun k => row = some k) ⟨hg.os, hg.tape, hg.output, hg.size, fun k hk hn => hg.block k hk (fun e => hn e.symm)⟩ hr
theorem Chg.set {S : Nat → Prop} {a w : World} (h : Chg S a w) {p : Addr} (hp : S p.block ∨ a.heap.size ≤ p.block) (u : Value) : Chg S a (w.setCell p u) :=
  h.grown (only_set (World.grownBy.refl w (some p.block)) (.inl rfl) u) (fun k e => by cases e; exact hp)
theorem Chg.below {S : Nat → Prop} {B : Nat} {a w : World} (h : Chg S a w) (hB : B ≤ a.heap.size) (hS : ∀ k, S k → B ≤ k) : Below B a w :=
  ⟨h.os, h.tape, h.output, h.size, fun k hk => h.block k (by omega) (fun q => by have := hS k q; omega)⟩
theorem Chg.mono {S S' : Nat → Prop} {a w : World} (h : Chg S a w) (hs : ∀ k, S k → S' k) : Chg S' a w := ⟨h.os, h.tape, h.output, h.size, fun k hk hn => h.block k hk (fun q => hn (hs k q))⟩
/-- a slice is kept where its block is -/
theorem Sl.kept {W W' : World} {A : Option Addr} {n c : Nat} {T : TypeId} {xs : List Value} (h : Sl W (.slice A n c) T xs) (hk : ∀ a, A = some a → W'.heap[a.block]? = W.heap[a.block]?) : Sl W' (.slice A n c) T xs := by
  refine ⟨h.1, ?_⟩
  rcases h.2 with q | ⟨g, cap, cur, e, h1, h2, h3⟩
  · exact .inl q
  · cases e
    exact .inr ⟨g, _, cur, rfl, h1, (hk _ rfl).trans h2, h3⟩
theorem Sl.lt {W : World} {a : Addr} {n c : Nat} {T : TypeId} {xs : List Value} (h : Sl W (.slice (some a) n c) T xs) : a.block < W.heap.size ∧ a = ⟨a.block, 0, none⟩ := by
  rcases h.2 with ⟨e, -⟩ | ⟨g, cap, cur, e, -, h2, -⟩
  · cases e
  · cases e; exact ⟨blk_lt h2, rfl⟩
theorem Sl.set {W : World} {g n c k : Nat} {T : TypeId} {xs : List Value} (h : Sl W (.slice (some ⟨g, 0, none⟩) n c) T xs) (u : Value) : Sl (W.setCell ⟨g, k, none⟩ u) (.slice (some ⟨g, 0, none⟩) n c) T (xs.set k u) := by
  unfold Sl
  rw [List.length_set]
  refine ⟨by rw [List.length_set]; exact h.1, ?_⟩
  rcases h.2 with ⟨e, -⟩ | ⟨g', cap, cur, e, h1, h2, h3, h4, h5, h6⟩
  · cases e
  · cases e
    refine .inr ⟨g, c, _, rfl, h1, block_setCell h2, h3, h4, by simpa using h5, ?_⟩
    rw [Array.toList_setIfInBounds, List.take_set, h6]
/-- the blocks of a datagram -/
def In3 (hb : Nat) (Ab Ah : Option Addr) (k : Nat) : Prop := k = hb ∨ (∃ a, Ab = some a ∧ a.block = k) ∨ ∃ a, Ah = some a ∧ a.block = k
/-- they lie apart -/
structure Dis (hb : Nat) (Ab Ah : Option Addr) : Prop where
  b : ∀ a, Ab = some a → a.block ≠ hb
  h : ∀ a, Ah = some a → a.block ≠ hb
  bh : ∀ a c, Ab = some a → Ah = some c → a.block ≠ c.block
/-- what holds in the middle of a change to the datagram in block hb -/
structure HSt (S : Nat → Prop) (w W : World) (hb : Nat) (H : Hf) (Ab : Option Addr) (cb : Nat) (Ah : Option Addr) (ch : Nat) : Prop where
  half : HalfB W hb H Ab cb Ah ch
  dis : Dis hb Ab Ah
  chg : Chg S w W
  own : ∀ k, In3 hb Ab Ah k → S k ∨ w.heap.size ≤ k
variable {S : Nat → Prop} {w W : World} {hb : Nat} {H : Hf} {Ab Ah : Option Addr} {cb ch : Nat}
theorem HSt.start (hH : HalfB w hb H Ab cb Ah ch) (hd : Dis hb Ab Ah) (hs : ∀ k, In3 hb Ab Ah k → S k) : HSt S w w hb H Ab cb Ah ch := ⟨hH, hd, Chg.refl _ _, fun k q => .inl (hs k q)⟩
theorem HSt.call {W' : World} (h : HSt S w W hb H Ab cb Ah ch) (hl : Below W.heap.size W W') : HSt S w W' hb H Ab cb Ah ch := ⟨h.half.below hl, h.dis, h.chg.call hl, h.own⟩
theorem HSt.alloc (h : HSt S w W hb H Ab cb Ah ch) (o : Obj) : HSt S w (W.alloc o) hb H Ab cb Ah ch := h.call ((Below.refl _ _).alloc (Nat.le_refl _) o)
theorem HSt.drew (h : HSt S w W hb H Ab cb Ah ch) : HSt S w W.drew hb H Ab cb Ah ch := ⟨h.half, h.dis, h.chg.drew, h.own⟩
theorem HSt.blk (h : HSt S w W hb H Ab cb Ah ch) : hb < W.heap.size := blk_lt h.half.1
theorem HSt.ownb (h : HSt S w W hb H Ab cb Ah ch) : S hb ∨ w.heap.size ≤ hb := h.own hb (.inl rfl)
/-- cells of the datagram's block are written -/
theorem HSt.field (h : HSt S w W hb H Ab cb Ah ch) {W' : World} (hg : W.grownBy W' (some hb)) (H' : Hf) (hb' : W'.heap[hb]? = some (.cells #[.int .i64 H'.start, .bool H'.rej, .slice Ab H'.by_.length cb, .slice Ah H'.hv.length ch, .int .i64 H'.cnt, .bool H'.ended, .int .i64 H'.en, .bool H'.started, .int .i64 H'.first.f, .int .i64 H'.first.t, .int .i64 H'.first.pr, .int .i64 H'.first.ttl, .int .i64 H'.first.id, .bool H'.first.df, .bool H'.first.mf, .int .i64 H'.first.off, .string H'.first.s] 133)) (e1 : H'.by_ = H.by_) (e2 : H'.hv = H.hv) : HSt S w W' hb H' Ab cb Ah ch := by
  refine ⟨⟨hb', ?_, ?_⟩, h.dis, h.chg.grown hg (fun k e => by cases e; exact h.ownb), h.own⟩
  · rw [e1]
    refine Sl.kept h.half.2.1 (fun a e => hg.block _ ?_ ?_)
    · subst e; exact h.half.2.1.lt.1
    · intro q; injection q with q; exact h.dis.b a e q
  · rw [e2]
    refine Sl.kept h.half.2.2 (fun a e => hg.block _ ?_ ?_)
    · subst e; exact h.half.2.2.lt.1
    · intro q; injection q with q; exact h.dis.h a e q
/-- a byte is written -/
theorem HSt.setBy {gb k : Nat} (h : HSt S w W hb H (some ⟨gb, 0, none⟩) cb Ah ch) (x : UInt8) : HSt S w (W.setCell ⟨gb, k, none⟩ (.int .u8 (x.toNat : Int))) hb { H with by_ := H.by_.set k x } (some ⟨gb, 0, none⟩) cb Ah ch := by
  have hne : gb ≠ hb := h.dis.b _ rfl
  refine ⟨⟨?_, ?_, ?_⟩, h.dis, h.chg.set (h.own gb (.inr (.inl ⟨_, rfl, rfl⟩))) _, h.own⟩
  · have := block_set_other (a := ⟨gb, k, none⟩) (u := .int .u8 (x.toNat : Int)) h.half.1 hne
    simpa only [List.length_set] using this
  · have := h.half.2.1.set (k := k) (.int .u8 (x.toNat : Int))
    simpa only [List.length_set, byC, List.map_set] using this
  · exact Sl.kept h.half.2.2 (fun a e => Below.heap_setCell _ _ _ _ (fun q => h.dis.bh _ a rfl e q.symm))
/-- a mark is written -/
theorem HSt.setHv {gh k : Nat} (h : HSt S w W hb H Ab cb (some ⟨gh, 0, none⟩) ch) (x : Bool) : HSt S w (W.setCell ⟨gh, k, none⟩ (.bool x)) hb { H with hv := H.hv.set k x } Ab cb (some ⟨gh, 0, none⟩) ch := by
  have hne : gh ≠ hb := h.dis.h _ rfl
  refine ⟨⟨?_, ?_, ?_⟩, h.dis, h.chg.set (h.own gh (.inr (.inr ⟨_, rfl, rfl⟩))) _, h.own⟩
  · have := block_set_other (a := ⟨gh, k, none⟩) (u := .bool x) h.half.1 hne
    simpa only [List.length_set] using this
  · exact Sl.kept h.half.2.1 (fun a e => Below.heap_setCell _ _ _ _ (fun q => h.dis.bh a _ e rfl q))
  · have := h.half.2.2.set (k := k) (.bool x)
    simpa only [List.length_set, boC, List.map_set] using this
/-- more bytes -/
theorem HSt.moreBy {W1 : World} {g cap m : Nat} (h : HSt S w W hb H Ab cb Ah ch) (ho : W1.ownsRow 0 5 1 (.slice (some ⟨g, 0, none⟩) (H.by_.length + m) cap) (H.by_.length + m) (byC H.by_ ++ List.replicate m (.int .u8 0))) (hg : W.grownBy W1 (Value.ownBlock (.slice Ab H.by_.length cb))) (hw : Value.ownBlock (.slice Ab H.by_.length cb) = some g ∨ g = W.heap.size) :
    HSt S w (W1.setCell ⟨hb, 2, none⟩ (.slice (some ⟨g, 0, none⟩) (H.by_.length + m) cap)) hb { H with by_ := H.by_ ++ List.replicate m 0 } (some ⟨g, 0, none⟩) cap Ah ch := by
  have hbl := h.blk
  have hob : ∀ k, Value.ownBlock (.slice Ab H.by_.length cb) = some k → ∃ a, Ab = some a ∧ a.block = k := fun k e => by
    cases Ab with
    | none => cases e
    | some a => exact ⟨a, rfl, by simpa [Value.ownBlock] using e⟩
  have hgh : g ≠ hb := by
    rcases hw with q | q
    · obtain ⟨a, e1, e2⟩ := hob g q; rw [← e2]; exact h.dis.b a e1
    · omega
  have hk1 : W1.heap[hb]? = W.heap[hb]? := hg.block hb hbl (fun e => by obtain ⟨a, e1, e2⟩ := hob hb e.symm; exact h.dis.b a e1 e2)
  have hgo : S g ∨ w.heap.size ≤ g := by
    rcases hw with q | q
    · exact h.own g (.inr (.inl (hob g q)))
    · exact .inr (by have := h.chg.size; omega)
  refine ⟨⟨?_, ?_, ?_⟩, ⟨fun a e => by cases e; exact hgh, h.dis.h, fun a c e1 e2 => ?_⟩, ?_, ?_⟩
  · have := block_setCell (k := 2) (v := .slice (some ⟨g, 0, none⟩) (H.by_.length + m) cap) (hk1.trans h.half.1)
    rw [this]; simp
  · refine Sl.kept (W := W1) ?_ (fun a e => Below.heap_setCell _ _ _ _ (by cases e; exact hgh))
    unfold Sl
    have e1 : (byC H.by_ ++ List.replicate m (.int .u8 0)) = byC (H.by_ ++ List.replicate m 0) := by simp [byC]
    have e2 : (byC (H.by_ ++ List.replicate m 0)).length = H.by_.length + m := by simp [byC]
    have e3 : (H.by_ ++ List.replicate m 0).length = H.by_.length + m := by simp
    rw [e2]
    show W1.ownsRow 0 _ 1 (.slice _ (H.by_ ++ List.replicate m 0).length _) _ _
    rw [e3, ← e1]; exact ho
  · refine Sl.kept h.half.2.2 (fun a e => ?_)
    rw [Below.heap_setCell _ _ _ _ (h.dis.h a e)]
    subst e
    exact hg.block _ h.half.2.2.lt.1 (fun e => by obtain ⟨c, e1, e2⟩ := hob _ e.symm; exact h.dis.bh c a e1 rfl e2)
  · cases e1
    show g ≠ c.block
    rcases hw with q | q
    · obtain ⟨a, e1, e3⟩ := hob g q; rw [← e3]; exact h.dis.bh a c e1 e2
    · subst e2; have := h.half.2.2.lt.1; omega
  · exact (h.chg.grown hg (fun k e => h.own k (.inr (.inl (hob k e))))).set (.elim h.ownb .inl .inr) _
  · rintro k (q | ⟨a, e, q⟩ | q)
    · subst q; exact h.ownb
    · cases e; subst q; exact hgo
    · exact h.own k (.inr (.inr q))
/-- more marks -/
theorem HSt.moreHv {W1 : World} {g cap m : Nat} (h : HSt S w W hb H Ab cb Ah ch) (ho : W1.ownsRow 0 4 1 (.slice (some ⟨g, 0, none⟩) (H.hv.length + m) cap) (H.hv.length + m) (boC H.hv ++ List.replicate m (.bool false))) (hg : W.grownBy W1 (Value.ownBlock (.slice Ah H.hv.length ch))) (hw : Value.ownBlock (.slice Ah H.hv.length ch) = some g ∨ g = W.heap.size) :
    HSt S w (W1.setCell ⟨hb, 3, none⟩ (.slice (some ⟨g, 0, none⟩) (H.hv.length + m) cap)) hb { H with hv := H.hv ++ List.replicate m false } Ab cb (some ⟨g, 0, none⟩) cap := by
  have hbl := h.blk
  have hob : ∀ k, Value.ownBlock (.slice Ah H.hv.length ch) = some k → ∃ a, Ah = some a ∧ a.block = k := fun k e => by
    cases Ah with
    | none => cases e
    | some a => exact ⟨a, rfl, by simpa [Value.ownBlock] using e⟩
  have hgh : g ≠ hb := by
    rcases hw with q | q
    · obtain ⟨a, e1, e2⟩ := hob g q; rw [← e2]; exact h.dis.h a e1
    · omega
  have hk1 : W1.heap[hb]? = W.heap[hb]? := hg.block hb hbl (fun e => by obtain ⟨a, e1, e2⟩ := hob hb e.symm; exact h.dis.h a e1 e2)
  have hgo : S g ∨ w.heap.size ≤ g := by
    rcases hw with q | q
    · exact h.own g (.inr (.inr (hob g q)))
    · exact .inr (by have := h.chg.size; omega)
  refine ⟨⟨?_, ?_, ?_⟩, ⟨h.dis.b, fun a e => by cases e; exact hgh, fun a c e1 e2 => ?_⟩, ?_, ?_⟩
  · have := block_setCell (k := 3) (v := .slice (some ⟨g, 0, none⟩) (H.hv.length + m) cap) (hk1.trans h.half.1)
    rw [this]; simp
  · refine Sl.kept h.half.2.1 (fun a e => ?_)
    rw [Below.heap_setCell _ _ _ _ (h.dis.b a e)]
    subst e
    exact hg.block _ h.half.2.1.lt.1 (fun e => by obtain ⟨c, e1, e2⟩ := hob _ e.symm; exact h.dis.bh a c rfl e1 e2.symm)
  · refine Sl.kept (W := W1) ?_ (fun a e => Below.heap_setCell _ _ _ _ (by cases e; exact hgh))
    unfold Sl
    have e1 : (boC H.hv ++ List.replicate m (.bool false)) = boC (H.hv ++ List.replicate m false) := by simp [boC]
    have e2 : (boC (H.hv ++ List.replicate m false)).length = H.hv.length + m := by simp [boC]
    have e3 : (H.hv ++ List.replicate m false).length = H.hv.length + m := by simp
    rw [e2]
    show W1.ownsRow 0 _ 1 (.slice _ (H.hv ++ List.replicate m false).length _) _ _
    rw [e3, ← e1]; exact ho
  · cases e2
    show a.block ≠ g
    rcases hw with q | q
    · obtain ⟨c, e2, e3⟩ := hob g q; rw [← e3]; exact h.dis.bh a c e1 e2
    · subst e1; have := h.half.2.1.lt.1; omega
  · exact (h.chg.grown hg (fun k e => h.own k (.inr (.inr (hob k e))))).set (.elim h.ownb .inl .inr) _
  · rintro k (q | q | ⟨a, e, q⟩)
    · subst q; exact h.ownb
    · exact h.own k (.inr (.inl q))
    · cases e; subst q; exact hgo
end Go.Proofs.YtmgjcjacoegocaaGreatDoor.Re

namespace Go.Proofs.YtmgjcjacoegocaaGreatDoor.Re
set_option maxRecDepth 100000
open Go.RowKit Go.Proofs.YtmgjcjacoegocaaGreatDoor.Wire
open Go.Proofs.YtmgjcjacoegocaaGreatDoor.Ip (Pk)

/-- one byte is laid -/
def laySet (H : Hf) (j : Nat) (b : UInt8) : Hf := if H.hv.getD j false then H else { H with hv := H.hv.set j true, by_ := H.by_.set j b, cnt := H.cnt + 1 }
def layN (s : ByteArray) (o : Nat) (H : Hf) : Nat → Hf
  | 0 => H
  | n + 1 => laySet (layN s o H n) (o + n) (s.data.toList.getD n 0)
/-- room for n bytes -/
def growF (H : Hf) (n : Nat) : Hf := { H with by_ := H.by_ ++ List.replicate (n - H.by_.length) 0, hv := H.hv ++ List.replicate (n - H.by_.length) false }
def endF (H : Hf) (p : Pk) : Hf := if p.mf then H else { H with ended := true, en := p.off + p.s.size }
def firstF (H : Hf) (p : Pk) : Hf := if p.off = 0 ∧ H.started = false then { H with started := true, first := p } else H
/-- the fragment is laid -/
def storeF (H : Hf) (p : Pk) : Hf := firstF (endF (layN p.s p.off.toNat (growF H (p.off.toNat + p.s.size)) p.s.size) p) p
theorem laySet_there {H : Hf} {j : Nat} {b : UInt8} (h : H.hv[j]? = some true) : laySet H j b = H := by
  unfold laySet; rw [List.getD_eq_getElem?_getD, h]; rfl
theorem laySet_new {H : Hf} {j : Nat} {b : UInt8} (h : H.hv[j]? = some false) : laySet H j b = { H with hv := H.hv.set j true, by_ := H.by_.set j b, cnt := H.cnt + 1 } := by
  unfold laySet; rw [List.getD_eq_getElem?_getD, h]; rfl
theorem laySet_len (H : Hf) (j : Nat) (b : UInt8) : (laySet H j b).by_.length = H.by_.length ∧ (laySet H j b).hv.length = H.hv.length := by
  unfold laySet; split <;> simp
theorem layN_len (s : ByteArray) (o : Nat) (H : Hf) : ∀ n, (layN s o H n).by_.length = H.by_.length ∧ (layN s o H n).hv.length = H.hv.length
  | 0 => ⟨rfl, rfl⟩
  | n + 1 => by
    obtain ⟨h1, h2⟩ := layN_len s o H n
    obtain ⟨k1, k2⟩ := laySet_len (layN s o H n) (o + n) (s.data.toList.getD n 0)
    exact ⟨k1.trans h1, k2.trans h2⟩
theorem laySet_cnt (H : Hf) (j : Nat) (b : UInt8) : H.cnt ≤ (laySet H j b).cnt ∧ (laySet H j b).cnt ≤ H.cnt + 1 := by
  unfold laySet; split
  · exact ⟨by omega, by omega⟩
  · exact ⟨by show _ ≤ H.cnt + 1; omega, by show H.cnt + 1 ≤ _; omega⟩
theorem layN_cnt (s : ByteArray) (o : Nat) (H : Hf) : ∀ n : Nat, H.cnt ≤ (layN s o H n).cnt ∧ (layN s o H n).cnt ≤ H.cnt + n
  | 0 => ⟨Int.le_refl _, by show H.cnt ≤ H.cnt + 0; omega⟩
  | n + 1 => by
    have h := layN_cnt s o H n
    have k := laySet_cnt (layN s o H n) (o + n) (s.data.toList.getD n 0)
    exact ⟨by show H.cnt ≤ (laySet _ _ _).cnt; omega, by show (laySet _ _ _).cnt ≤ _; omega⟩
theorem HSt.first1 {S : Nat → Prop} {w we : World} {hb : Nat} {H : Hf} {Ab Ah : Option Addr} {cb ch : Nat} (h : HSt S w we hb H Ab cb Ah ch) (p : Pk) : HSt S w ((((((((((we.setCell ⟨hb, 7, none⟩ (.bool true)).setCell ⟨hb, 8, none⟩ (.int .i64 p.f)).setCell ⟨hb, 9, none⟩ (.int .i64 p.t)).setCell ⟨hb, 10, none⟩ (.int .i64 p.pr)).setCell ⟨hb, 11, none⟩ (.int .i64 p.ttl)).setCell ⟨hb, 12, none⟩ (.int .i64 p.id)).setCell ⟨hb, 13, none⟩ (.bool p.df)).setCell ⟨hb, 14, none⟩ (.bool p.mf)).setCell ⟨hb, 15, none⟩ (.int .i64 p.off)).setCell ⟨hb, 16, none⟩ (.string p.s)).drew hb { H with started := true, first := p } Ab cb Ah ch :=
  (h.field (only_set (only_set (only_set (only_set (only_set (only_set (only_set (only_set (only_set (only_set (World.grownBy.refl we (some hb)) (.inl rfl) (.bool true) (p := ⟨hb, 7, none⟩)) (.inl rfl) (.int .i64 p.f) (p := ⟨hb, 8, none⟩)) (.inl rfl) (.int .i64 p.t) (p := ⟨hb, 9, none⟩)) (.inl rfl) (.int .i64 p.pr) (p := ⟨hb, 10, none⟩)) (.inl rfl) (.int .i64 p.ttl) (p := ⟨hb, 11, none⟩)) (.inl rfl) (.int .i64 p.id) (p := ⟨hb, 12, none⟩)) (.inl rfl) (.bool p.df) (p := ⟨hb, 13, none⟩)) (.inl rfl) (.bool p.mf) (p := ⟨hb, 14, none⟩)) (.inl rfl) (.int .i64 p.off) (p := ⟨hb, 15, none⟩)) (.inl rfl) (.string p.s) (p := ⟨hb, 16, none⟩)) { H with started := true, first := p } (by rw [(block_setCell (k := 16) (v := .string p.s) (block_setCell (k := 15) (v := .int .i64 p.off) (block_setCell (k := 14) (v := .bool p.mf) (block_setCell (k := 13) (v := .bool p.df) (block_setCell (k := 12) (v := .int .i64 p.id) (block_setCell (k := 11) (v := .int .i64 p.ttl) (block_setCell (k := 10) (v := .int .i64 p.pr) (block_setCell (k := 9) (v := .int .i64 p.t) (block_setCell (k := 8) (v := .int .i64 p.f) (block_setCell (k := 7) (v := .bool true) h.half.1))))))))))]; simp) rfl rfl).drew
theorem info_u8 : (Tryz.prog.info? 5).map (fun i => (i.zero, i.size, i.bytes)) = some (some (.int .u8 0), 1, 1) := by kernel_rfl
theorem info_bool : (Tryz.prog.info? 4).map (fun i => (i.zero, i.size, i.bytes)) = some (some (.bool false), 1, 1) := by kernel_rfl
def StorePost (S : Nat → Prop) (w : World) (hb : Nat) (H : Hf) (e : Ending) (w' : World) : Prop := e = .returned (.tuple #[]) ∧ ∃ Ab cb Ah ch, HSt S w w' hb H Ab cb Ah ch
set_option maxHeartbeats 8000000 in
theorem store_aux (H : Hf) (f t pr ttl id : Int) (df mf : Bool) (o : Nat) (s : ByteArray) (hb : Nat) (Ab : Option Addr) (cb : Nat) (Ah : Option Addr) (ch : Nat) (w : World) (S : Nat → Prop) (hH : HalfB w hb H Ab cb Ah ch) (hd : Dis hb Ab Ah) (hS : ∀ k, In3 hb Ab Ah k → S k) (hSl : ∀ k, S k → k < w.heap.size)
    (hlen : H.hv.length = H.by_.length) (hm : o + s.size ≤ 4000) (hs : H.by_.length ≤ 4000) (hc : 0 ≤ H.cnt ∧ H.cnt ≤ 4000) :
    Calls Tryz.prog 49 #[.pointer (some ⟨hb, 0, none⟩), .agg #[.int .i64 f, .int .i64 t, .int .i64 pr, .int .i64 ttl, .int .i64 id, .bool df, .bool mf, .int .i64 (o : Int), .string s]] w (StorePost S w hb (firstF (endF (layN s o (growF H (o + s.size)) s.size) ⟨f, t, pr, ttl, id, df, mf, o, s⟩) ⟨f, t, pr, ttl, id, df, mf, o, s⟩)) := by
  have HP := Lib.hid (alloc_new w (.cells #[.int .i64 f, .int .i64 t, .int .i64 pr, .int .i64 ttl, .int .i64 id, .bool df, .bool mf, .int .i64 (o : Int), .string s] 48))
  have HS := Lib.hid ((HSt.start hH hd hS).alloc (.cells #[.int .i64 f, .int .i64 t, .int .i64 pr, .int .i64 ttl, .int .i64 id, .bool df, .bool mf, .int .i64 (o : Int), .string s] 48))
  have hlt := blk_lt hH.1
  have HN : Hid (¬ In3 hb Ab Ah w.heap.size) := Lib.hid fun q => absurd (hSl _ (hS _ q)) (by omega)
  have HSL := Lib.hid hSl
  have HLEN := Lib.hid hlen
  clear hH hd hS hSl
  obtain ⟨L, hL⟩ : ∃ L, H.by_.length = L := ⟨_, rfl⟩
  have HL := Lib.hid hL
  rw [hL] at hs hlen
  go_enter Tryz.func49, Tryz.ntmps49
  by_cases hg : L < o + s.size
  · have g1 : (0 : Int) < (o : Int) + (s.size : Int) - (L : Int) := by omega
    obtain ⟨m, hmm⟩ : ∃ m, m = o + s.size - L := ⟨_, rfl⟩
    obtain ⟨i8, hi8, hz8, hs8, hb8⟩ := info_parts info_u8
    obtain ⟨ib, hib, hzb, hsb, hbb⟩ := info_parts info_bool
    have hml : H.by_.length + m ≤ 1000000 := by have := HL.out; omega
    have hmh : H.hv.length + m ≤ 1000000 := by omega
    obtain ⟨g1', c1', W1, hr1, ho1, hg1, hw1, -⟩ := run_zeros_own (P := Tryz.prog) (w.alloc (.cells #[.int .i64 f, .int .i64 t, .int .i64 pr, .int .i64 ttl, .int .i64 id, .bool df, .bool mf, .int .i64 (o : Int), .string s] 48)) 105 3 105 5 i8 (.int .u8 0) Tryz.underlying105 Tryz.underlying3 hi8 hz8 hs8 hb8 rfl rfl (.slice Ab H.by_.length cb) H.by_.length (byC H.by_) (by have := HS.out.half.2.1; unfold Sl at this; rw [show (byC H.by_).length = H.by_.length by simp [byC]] at this; exact this) m (by omega) hml
    have HS2 := Lib.hid (HS.out.moreBy ho1 hg1 hw1)
    have HW1 : Hid (W1.heap[hb]? = (w.alloc (.cells #[.int .i64 f, .int .i64 t, .int .i64 pr, .int .i64 ttl, .int .i64 id, .bool df, .bool mf, .int .i64 (o : Int), .string s] 48)).heap[hb]?) := Lib.hid (hg1.block hb HS.out.blk (fun e => by
      cases Ab with
      | none => cases e
      | some a => exact HS.out.dis.b a rfl (by simpa [Value.ownBlock] using e.symm)))
    have HP2 : Hid ((W1.setCell ⟨hb, 2, none⟩ (.slice (some ⟨g1', 0, none⟩) (H.by_.length + m) c1')).heap[w.heap.size]? = some (.cells #[.int .i64 f, .int .i64 t, .int .i64 pr, .int .i64 ttl, .int .i64 id, .bool df, .bool mf, .int .i64 (o : Int), .string s] 48)) := Lib.hid (block_set_other ((hg1.block _ (by simp) (fun e => by
      cases Ab with
      | none => cases e
      | some a => exact HN.out (.inr (.inl ⟨a, rfl, by simpa [Value.ownBlock] using e.symm⟩)))).trans HP.out) (by show hb ≠ _; omega))
    have hmh2 : H.hv.length + m ≤ 1000000 := hmh
    obtain ⟨g2', c2', W3, hr2, ho2, hg2, hw2, -⟩ := run_zeros_own (P := Tryz.prog) (W1.setCell ⟨hb, 2, none⟩ (.slice (some ⟨g1', 0, none⟩) (H.by_.length + m) c1')) 131 3 131 4 ib (.bool false) Tryz.underlying131 Tryz.underlying3 hib hzb hsb hbb rfl rfl (.slice Ah H.hv.length ch) H.hv.length (boC H.hv) (by have := HS2.out.half.2.2; unfold Sl at this; rw [show (boC H.hv).length = H.hv.length by simp [boC]] at this; exact this) m (by omega) hmh
    have HS3 := Lib.hid (HS2.out.moreHv ho2 hg2 hw2)
    have hob : ∀ k, Value.ownBlock (.slice Ah H.hv.length ch) = some k → ∃ a, Ah = some a ∧ a.block = k := fun k e => by
      cases Ah with
      | none => cases e
      | some a => exact ⟨a, rfl, by simpa [Value.ownBlock] using e⟩
    have HW3 : Hid (W3.heap[hb]? = (W1.setCell ⟨hb, 2, none⟩ (.slice (some ⟨g1', 0, none⟩) (H.by_.length + m) c1')).heap[hb]?) := Lib.hid (hg2.block hb HS2.out.blk (fun e => by
      obtain ⟨a, q1, q2⟩ := hob _ e.symm; exact HS2.out.dis.h a q1 q2))
    have HP3 : Hid ((W3.setCell ⟨hb, 3, none⟩ (.slice (some ⟨g2', 0, none⟩) (H.hv.length + m) c2')).heap[w.heap.size]? = some (.cells #[.int .i64 f, .int .i64 t, .int .i64 pr, .int .i64 ttl, .int .i64 id, .bool df, .bool mf, .int .i64 (o : Int), .string s] 48)) := Lib.hid (block_set_other ((hg2.block _ (blk_lt HP2.out) (fun e => by
      obtain ⟨a, q1, q2⟩ := hob _ e.symm; exact HN.out (.inr (.inr ⟨a, q1, q2⟩)))).trans HP2.out) (by show hb ≠ _; omega))
    have HNX : Hid (¬ In3 hb (some ⟨g1', 0, none⟩) (some ⟨g2', 0, none⟩) w.heap.size) := Lib.hid (by
      rintro (q | ⟨a, e, q⟩ | ⟨a, e, q⟩)
      · omega
      · cases e
        rcases hw1 with q1 | q1
        · cases Ab with
          | none => cases q1
          | some a => exact HN.out (.inr (.inl ⟨a, rfl, by simp [Value.ownBlock] at q1; rw [q1]; exact q⟩))
        · simp at q1 q; omega
      · cases e
        rcases hw2 with q1 | q1
        · obtain ⟨a, e1, e2⟩ := hob _ q1; exact HN.out (.inr (.inr ⟨a, e1, e2.trans q⟩))
        · have := hg1.size; simp [World.setCell] at q1 q this; omega)
    have Hh := Lib.hid HS.out.half.1
    have qh2 := (cell_of_block (k := 2) Hh.out rfl).1
    have Hh1 := Lib.hid (HW1.out.trans HS.out.half.1)
    have qh2b := (cell_of_block (k := 2) Hh1.out rfl).1; have zh2b := (cell_of_block (k := 2) Hh1.out rfl).2
    have qh3 := (cell_of_block (k := 3) HS2.out.half.1 rfl).1
    have Hh3 := Lib.hid (HW3.out.trans HS2.out.half.1)
    have qh3b := (cell_of_block (k := 3) Hh3.out rfl).1; have zh3b := (cell_of_block (k := 3) Hh3.out rfl).2
    have HGX : Hid (growF H (o + s.size) = { H with by_ := H.by_ ++ List.replicate m 0, hv := H.hv ++ List.replicate m false }) := Lib.hid (by unfold growF; rw [hmm, ← HL.out])
    rw [← HGX.out] at HS3
    have em : (m : Int) = (o : Int) + (s.size : Int) - (L : Int) := by omega
    rw [hL] at qh2 hr1 hr2 qh3
    rw [em] at hr1 hr2
    have HR1 := Lib.hid hr1; have HR2 := Lib.hid hr2
    have HLX : Hid (o + s.size ≤ (growF H (o + s.size)).by_.length ∧ (growF H (o + s.size)).hv.length = (growF H (o + s.size)).by_.length) := Lib.hid (by rw [HGX.out]; have := HL.out; have := HLEN.out; simp; omega)
    have HCX : Hid (0 ≤ (growF H (o + s.size)).cnt ∧ (growF H (o + s.size)).cnt ≤ 4000) := Lib.hid (by rw [HGX.out]; exact hc)
    clear hr1 hr2 em hob ho1 hg1 hw1 ho2 hg2 hw2 hL HW1 HW3 hi8 hz8 hs8 hb8 hib hzb hsb hbb hml hmh hmh2 Hh Hh1 Hh3 HP2 HS2 HN HP HS hmm HLEN hc HGX
    have hlen2 := Lib.hid hlen; have hs2 := Lib.hid hs; clear hlen
    have qpx := (cell_of_block (k := 7) HP3.out rfl).1
    go_wp2_with (first | (at_builtin; refine Lib.wpList_append_run _ rfl _ _ _ _ rfl _ _ rfl rfl _ _ HR1.out ?_) | (at_builtin; refine Lib.wpList_append_run _ rfl _ _ _ _ rfl _ _ rfl rfl _ _ HR2.out ?_))
    have HPX := HP3; have HS := HS3
    clear HP3 HS3 HR1 HR2 qh2 qh2b zh2b qh3 qh3b zh3b qpx hlen2 hs2 g1
    generalize hHx : growF H (o + s.size) = Hx at *
    generalize W3.setCell ⟨hb, 3, none⟩ (.slice (some ⟨g2', 0, none⟩) (H.hv.length + m) c2') = Wx at *
    obtain ⟨Ax, hAx⟩ : ∃ A, A = (some ⟨g1', 0, none⟩ : Option Addr) := ⟨_, rfl⟩
    obtain ⟨Bx, hBx⟩ : ∃ A, A = (some ⟨g2', 0, none⟩ : Option Addr) := ⟨_, rfl⟩
    obtain ⟨cx, hcx⟩ : ∃ A, A = c1' := ⟨_, rfl⟩
    obtain ⟨dx, hdx⟩ : ∃ A, A = c2' := ⟨_, rfl⟩
    rw [← hAx, ← hBx] at HS HNX
    rw [← hcx, ← hdx] at HS
    clear hAx hBx hcx hdx hHx HL
    go_loopw [6] (fun i wr => ∃ j : Nat, o ≤ j ∧ j ≤ o + s.size ∧ i = .int .i64 (j : Int) ∧ HSt S w wr hb (layN s o Hx (j - o)) Ax cx Bx dx ∧ wr.heap[w.heap.size]? = some (.cells #[.int .i64 f, .int .i64 t, .int .i64 pr, .int .i64 ttl, .int .i64 id, .bool df, .bool mf, .int .i64 (o : Int), .string s] 48)) (fun i _ => ((o : Int) + s.size - intOf i).toNat)
    case atStart => exact ⟨o, by omega, by omega, rfl, by rw [Nat.sub_self]; exact HS.out, HPX.out⟩
    case round =>
      obtain ⟨j, hj1, hj2, rfl, hS1, hP1⟩ := hrel
      have HS1 := Lib.hid hS1; have HP1 := Lib.hid hP1; clear hS1 hP1 HS HPX
      obtain ⟨k, hk⟩ : ∃ k, j = o + k := ⟨j - o, by omega⟩
      have hjk : j - o = k := by omega
      rw [hjk] at HS1
      have HJ := Lib.hid hk; have HJK := Lib.hid hjk; clear hk hjk
      obtain ⟨Hk, hHk⟩ : ∃ Hk, layN s o Hx k = Hk := ⟨_, rfl⟩
      have hl1 := (layN_len s o Hx k).1; have hl2 := (layN_len s o Hx k).2
      have hcn := layN_cnt s o Hx k
      rw [hHk] at HS1 hl1 hl2 hcn
      have HHK := Lib.hid hHk; clear hHk
      obtain ⟨Lb, hLb⟩ : ∃ Lb, Hk.by_.length = Lb := ⟨_, rfl⟩
      have hLh : Hk.hv.length = Lb := by have := HLX.out; omega
      have hL3 : o + s.size ≤ Lb := by have := HLX.out; omega
      have hc4 : 0 ≤ Hk.cnt ∧ Hk.cnt ≤ 8000 := by have := HCX.out; have := HJ.out; omega
      obtain ⟨C, hC⟩ : ∃ C, Hk.cnt = C := ⟨_, rfl⟩
      rw [hC] at hc4
      have Hh := Lib.hid HS1.out.half.1
      have qh2 := (cell_of_block (k := 2) Hh.out rfl).1; have qh3 := (cell_of_block (k := 3) Hh.out rfl).1
      have hSb := HS1.out.half.2.1; have hSh := HS1.out.half.2.2
      rw [hLb] at qh2; rw [hLh] at qh3
      have HLB := Lib.hid hLb; have HLH := Lib.hid hLh; have HC := Lib.hid hC
      clear hl1 hl2 hcn hLb hLh hC Hh
      by_cases hlt2 : j < o + s.size
      · obtain ⟨gb, rfl⟩ := hSb.addr (by simp only [byC, List.length_map]; have := HLB.out; omega)
        obtain ⟨gh, rfl⟩ := hSh.addr (by simp only [boC, List.length_map]; have := HLH.out; omega)
        have e1 : Hk.hv[j]? = some (Hk.hv[j]'(by have := HLH.out; omega)) := List.getElem?_eq_getElem _
        obtain ⟨y, hy⟩ : ∃ y, Hk.hv[j]? = some y := ⟨_, e1⟩
        clear e1
        have c2 := (hSh.cell (k := j) (u := .bool y) (by simp [boC, hy])).1
        have c2f := (hSh.cell (k := j) (u := .bool y) (by simp [boC, hy])).2
        have HY := Lib.hid hy; clear hy hSh hSb
        have j0 : (0 : Int) ≤ (j : Int) := by omega
        have j2 : (j : Int) < (Lb : Int) := by omega
        have j3 : decide ((j : Int) < (o : Int) + (s.size : Int)) = true := by simp; omega
        cases y with
        | true =>
          go_wp2_with fail
          refine ⟨⟨j + 1, by omega, by omega, by go_num, ?_, HP1.out⟩, by simp [intOf]; omega⟩
          rw [show j + 1 - o = k + 1 by have := HJ.out; omega]
          show HSt S w wr hb (laySet (layN s o Hx k) (o + k) _) _ _ _ _
          rw [HHK.out, laySet_there (by rw [← HJ.out]; exact HY.out)]
          exact HS1.out
        | false =>
          go_upto_region 11 with fail
          have HS2 := Lib.hid (HS1.out.setHv (k := j) true)
          have HP2 := Lib.hid (block_set_other (a := ⟨gh, j, none⟩) (u := .bool true) HP1.out (by have := HNX.out; intro q; exact this (.inr (.inr ⟨_, rfl, q⟩))))
          clear HS1 HP1 qh2 qh3 c2 c2f
          generalize wr.setCell ⟨gh, j, none⟩ (.bool true) = w1 at *
          have Hh := Lib.hid HS2.out.half.1
          have qh2 := (cell_of_block (k := 2) Hh.out rfl).1
          have qp7 := (cell_of_block (k := 7) HP2.out rfl).1; have qp8 := (cell_of_block (k := 8) HP2.out rfl).1
          have hx : Hk.by_[j]? = some (Hk.by_[j]'(by have := HLB.out; omega)) := List.getElem?_eq_getElem _
          have c1 := (HS2.out.half.2.1.cell (k := j) (u := .int .u8 ((Hk.by_[j]'(by have := HLB.out; omega)).toNat : Int)) (by simp [byC, hx]))
          obtain ⟨c1, c1f⟩ := c1
          generalize (Hk.by_[j]'(by have := HLB.out; omega)) = x0 at *
          have qh2' : w1.cell? ⟨hb, 2, none⟩ = some (.slice (some ⟨gb, 0, none⟩) Lb cx) := by rw [← HLB.out]; exact qh2
          clear qh2 Hh hx
          have hks : k < s.size := by have := HJ.out; omega
          have w9 : IntKind.i64.wrap ((j : Int) - (o : Int)) = (k : Int) := by rw [show (j : Int) - (o : Int) = (k : Int) by have := HJ.out; omega]; exact IntWalk.i64_in _ (by omega)
          have k2 : (0 : Int) ≤ (k : Int) := by omega
          have k3 : (k : Int) < (s.size : Int) := by omega
          go_still_tail 13, (by kernel_rfl)
          change wpList _ _ _ _ _ w1.drew
          have HS3 := Lib.hid HS2.out.drew
          have HP3 : Hid (w1.drew.heap[w.heap.size]? = some _) := Lib.hid HP2.out
          have d1 : w1.drew.cell? ⟨gb, j, none⟩ = some (.int .u8 (x0.toNat : Int)) := c1
          have d2 : w1.drew.frozen? ⟨gb, j, none⟩ = false := c1f
          clear c1 c1f qh2' HS2 HP2 qp7 qp8
          generalize w1.drew = w2 at *
          go_upto_region 12 with fail
          have HS4 := Lib.hid (HS3.out.setBy (k := j) s[k])
          have HP4 := Lib.hid (block_set_other (a := ⟨gb, j, none⟩) (u := .int .u8 ((s[k]).toNat : Int)) HP3.out (by have := HNX.out; intro q; exact this (.inr (.inl ⟨_, rfl, q⟩))))
          clear d1 d2 HS3 HP3
          generalize hw4 : w2.setCell ⟨gb, j, none⟩ (.int .u8 ((s[k]).toNat : Int)) = w4 at *
          clear hw4
          have Hh := Lib.hid HS4.out.half.1
          have qh4 := (cell_of_block (k := 4) Hh.out rfl).1; have zh4 := (cell_of_block (k := 4) Hh.out rfl).2
          have qh4' : w4.cell? ⟨hb, 4, none⟩ = some (.int .i64 C) := by rw [← HC.out]; exact qh4
          clear qh4
          go_wp2_with fail
          have HS5 := HS4.out.field (only_set (World.grownBy.refl w4 (some hb)) (.inl rfl) (.int .i64 (C + 1)) (p := ⟨hb, 4, none⟩)) { Hk with hv := Hk.hv.set j true, by_ := Hk.by_.set j s[k], cnt := Hk.cnt + 1 } (by rw [block_setCell (k := 4) (v := .int .i64 (C + 1)) Hh.out, HC.out]; simp) rfl rfl
          refine ⟨⟨j + 1, by omega, by omega, by go_num, ?_, block_set_other HP4.out (by show hb ≠ w.heap.size; omega)⟩, by simp [intOf]; omega⟩
          rw [show j + 1 - o = k + 1 by have := HJ.out; omega]
          show HSt S w _ hb (laySet (layN s o Hx k) (o + k) _) _ _ _ _
          rw [HHK.out, laySet_new (by rw [← HJ.out]; exact HY.out), getD_lt s k hks, ← HJ.out]
          exact HS5
      · obtain rfl : j = o + s.size := by omega
        have hks : k = s.size := by have := HJ.out; omega
        have j3 : decide (((o + s.size : Nat) : Int) < (o : Int) + (s.size : Int)) = false := by simp
        subst hks
        have qp6 := (cell_of_block (k := 6) HP1.out rfl).1; have qp7 := (cell_of_block (k := 7) HP1.out rfl).1
        have Hh := Lib.hid HS1.out.half.1
        have qh5 := (cell_of_block (k := 5) Hh.out rfl).1; have zh5 := (cell_of_block (k := 5) Hh.out rfl).2
        have qh6 := (cell_of_block (k := 6) Hh.out rfl).1; have zh6 := (cell_of_block (k := 6) Hh.out rfl).2
        clear qh2 qh3 hSb hSh hc4 hL3
        cases mf
        · go_upto_region 15 with fail
          have HS5 := HS1.out.field (only_set (only_set (World.grownBy.refl wr (some hb)) (.inl rfl) (.bool true) (p := ⟨hb, 5, none⟩)) (.inl rfl) (.int .i64 ((o : Int) + (s.size : Int))) (p := ⟨hb, 6, none⟩)) { Hk with ended := true, en := (o : Int) + (s.size : Int) } (by rw [block_setCell (k := 6) (v := .int .i64 ((o : Int) + (s.size : Int))) (block_setCell (k := 5) (v := .bool true) Hh.out)]; simp) rfl rfl
          obtain ⟨He, hHe⟩ : ∃ He, endF Hk (⟨f, t, pr, ttl, id, df, false, (o : Int), s⟩ : Pk) = He := ⟨_, rfl⟩
          have HE : Hid (HSt S w ((wr.setCell ⟨hb, 5, none⟩ (.bool true)).setCell ⟨hb, 6, none⟩ (.int .i64 ((o : Int) + (s.size : Int)))) hb He Ax cx Bx dx) := Lib.hid (hHe ▸ HS5)
          have HQ := Lib.hid (block_set_other (a := ⟨hb, 6, none⟩) (u := .int .i64 ((o : Int) + (s.size : Int))) (block_set_other (a := ⟨hb, 5, none⟩) (u := .bool true) HP1.out (by show hb ≠ w.heap.size; omega)) (by show hb ≠ w.heap.size; omega))
          have HED := Lib.hid hHe
          clear HS5 hHe HS1 HP1 Hh qp6 qp7 qh5 zh5 qh6 zh6
          generalize (wr.setCell ⟨hb, 5, none⟩ (.bool true)).setCell ⟨hb, 6, none⟩ (.int .i64 ((o : Int) + (s.size : Int))) = we at *
          have Hh := Lib.hid HE.out.half.1
          have qh7 := (cell_of_block (k := 7) Hh.out rfl).1; have zh7 := (cell_of_block (k := 7) Hh.out rfl).2
          have qp7 := (cell_of_block (k := 7) HQ.out rfl).1
          obtain ⟨St, hSt⟩ : ∃ b, He.started = b := ⟨_, rfl⟩
          rw [hSt] at qh7
          have HST := Lib.hid hSt; clear hSt
          have HRES : Hid (firstF (endF (layN s o Hx s.size) (⟨f, t, pr, ttl, id, df, false, (o : Int), s⟩ : Pk)) (⟨f, t, pr, ttl, id, df, false, (o : Int), s⟩ : Pk) = firstF He (⟨f, t, pr, ttl, id, df, false, (o : Int), s⟩ : Pk)) := Lib.hid (by rw [HHK.out, HED.out])
          by_cases ho : o = 0
          · have t0 : ((o : Int) == 0) = true := by simp; omega
            have HO := Lib.hid ho; clear ho
            cases St with
            | true =>
              go_wp2_with fail
              go_end0
              refine ⟨rfl, Ax, cx, Bx, dx, ?_⟩
              rw [HRES.out, show firstF He (⟨f, t, pr, ttl, id, df, false, (o : Int), s⟩ : Pk) = He by unfold firstF; rw [if_neg (by rw [HST.out]; simp)]]
              exact HE.out
            | false =>
              go_upto_region 16 with fail
              have qh7 := (cell_of_block (k := 7) Hh.out rfl).1; have zh7 := (cell_of_block (k := 7) Hh.out rfl).2; have qh8 := (cell_of_block (k := 8) Hh.out rfl).1; have zh8 := (cell_of_block (k := 8) Hh.out rfl).2; have qh9 := (cell_of_block (k := 9) Hh.out rfl).1; have zh9 := (cell_of_block (k := 9) Hh.out rfl).2; have qh10 := (cell_of_block (k := 10) Hh.out rfl).1; have zh10 := (cell_of_block (k := 10) Hh.out rfl).2; have qh11 := (cell_of_block (k := 11) Hh.out rfl).1; have zh11 := (cell_of_block (k := 11) Hh.out rfl).2; have qh12 := (cell_of_block (k := 12) Hh.out rfl).1; have zh12 := (cell_of_block (k := 12) Hh.out rfl).2; have qh13 := (cell_of_block (k := 13) Hh.out rfl).1; have zh13 := (cell_of_block (k := 13) Hh.out rfl).2; have qh14 := (cell_of_block (k := 14) Hh.out rfl).1; have zh14 := (cell_of_block (k := 14) Hh.out rfl).2; have qh15 := (cell_of_block (k := 15) Hh.out rfl).1; have zh15 := (cell_of_block (k := 15) Hh.out rfl).2; have qh16 := (cell_of_block (k := 16) Hh.out rfl).1; have zh16 := (cell_of_block (k := 16) Hh.out rfl).2; have lt_h := blk_lt Hh.out
              have qp0 := (cell_of_block (k := 0) HQ.out rfl).1; have qp1 := (cell_of_block (k := 1) HQ.out rfl).1; have qp2 := (cell_of_block (k := 2) HQ.out rfl).1; have qp3 := (cell_of_block (k := 3) HQ.out rfl).1; have qp4 := (cell_of_block (k := 4) HQ.out rfl).1; have qp5 := (cell_of_block (k := 5) HQ.out rfl).1; have qp6 := (cell_of_block (k := 6) HQ.out rfl).1; have qp8 := (cell_of_block (k := 8) HQ.out rfl).1
              go_region
              all_goals (go_end0)
              all_goals
                refine ⟨rfl, Ax, cx, Bx, dx, ?_⟩
                rw [HRES.out, show firstF He (⟨f, t, pr, ttl, id, df, false, (o : Int), s⟩ : Pk) = { He with started := true, first := (⟨f, t, pr, ttl, id, df, false, (o : Int), s⟩ : Pk) } by unfold firstF; rw [if_pos ⟨by show (o : Int) = 0; rw [HO.out]; rfl, HST.out⟩]]
              · exact HE.out.first1 (⟨f, t, pr, ttl, id, df, false, (o : Int), s⟩ : Pk)
          · have t0 : ((o : Int) == 0) = false := by simp; omega
            have HO := Lib.hid ho; clear ho
            go_wp2_with fail
            go_end0
            refine ⟨rfl, Ax, cx, Bx, dx, ?_⟩
            rw [HRES.out, show firstF He (⟨f, t, pr, ttl, id, df, false, (o : Int), s⟩ : Pk) = He by unfold firstF; rw [if_neg (by rintro ⟨q, -⟩; have := HO.out; exact this (Int.ofNat_eq_zero.1 q))]]
            exact HE.out
        · go_upto_region 15 with fail
          obtain ⟨He, hHe⟩ : ∃ He, endF Hk (⟨f, t, pr, ttl, id, df, true, (o : Int), s⟩ : Pk) = He := ⟨_, rfl⟩
          have HE : Hid (HSt S w wr hb He Ax cx Bx dx) := Lib.hid (hHe ▸ HS1.out)
          have HQ := HP1
          have HED := Lib.hid hHe
          clear hHe HS1 HP1 Hh qp6 qp7 qh5 zh5 qh6 zh6
          have Hh := Lib.hid HE.out.half.1
          have qh7 := (cell_of_block (k := 7) Hh.out rfl).1; have zh7 := (cell_of_block (k := 7) Hh.out rfl).2
          have qp7 := (cell_of_block (k := 7) HQ.out rfl).1
          obtain ⟨St, hSt⟩ : ∃ b, He.started = b := ⟨_, rfl⟩
          rw [hSt] at qh7
          have HST := Lib.hid hSt; clear hSt
          have HRES : Hid (firstF (endF (layN s o Hx s.size) (⟨f, t, pr, ttl, id, df, true, (o : Int), s⟩ : Pk)) (⟨f, t, pr, ttl, id, df, true, (o : Int), s⟩ : Pk) = firstF He (⟨f, t, pr, ttl, id, df, true, (o : Int), s⟩ : Pk)) := Lib.hid (by rw [HHK.out, HED.out])
          by_cases ho : o = 0
          · have t0 : ((o : Int) == 0) = true := by simp; omega
            have HO := Lib.hid ho; clear ho
            cases St with
            | true =>
              go_wp2_with fail
              go_end0
              refine ⟨rfl, Ax, cx, Bx, dx, ?_⟩
              rw [HRES.out, show firstF He (⟨f, t, pr, ttl, id, df, true, (o : Int), s⟩ : Pk) = He by unfold firstF; rw [if_neg (by rw [HST.out]; simp)]]
              exact HE.out
            | false =>
              go_upto_region 16 with fail
              have qh7 := (cell_of_block (k := 7) Hh.out rfl).1; have zh7 := (cell_of_block (k := 7) Hh.out rfl).2; have qh8 := (cell_of_block (k := 8) Hh.out rfl).1; have zh8 := (cell_of_block (k := 8) Hh.out rfl).2; have qh9 := (cell_of_block (k := 9) Hh.out rfl).1; have zh9 := (cell_of_block (k := 9) Hh.out rfl).2; have qh10 := (cell_of_block (k := 10) Hh.out rfl).1; have zh10 := (cell_of_block (k := 10) Hh.out rfl).2; have qh11 := (cell_of_block (k := 11) Hh.out rfl).1; have zh11 := (cell_of_block (k := 11) Hh.out rfl).2; have qh12 := (cell_of_block (k := 12) Hh.out rfl).1; have zh12 := (cell_of_block (k := 12) Hh.out rfl).2; have qh13 := (cell_of_block (k := 13) Hh.out rfl).1; have zh13 := (cell_of_block (k := 13) Hh.out rfl).2; have qh14 := (cell_of_block (k := 14) Hh.out rfl).1; have zh14 := (cell_of_block (k := 14) Hh.out rfl).2; have qh15 := (cell_of_block (k := 15) Hh.out rfl).1; have zh15 := (cell_of_block (k := 15) Hh.out rfl).2; have qh16 := (cell_of_block (k := 16) Hh.out rfl).1; have zh16 := (cell_of_block (k := 16) Hh.out rfl).2; have lt_h := blk_lt Hh.out
              have qp0 := (cell_of_block (k := 0) HQ.out rfl).1; have qp1 := (cell_of_block (k := 1) HQ.out rfl).1; have qp2 := (cell_of_block (k := 2) HQ.out rfl).1; have qp3 := (cell_of_block (k := 3) HQ.out rfl).1; have qp4 := (cell_of_block (k := 4) HQ.out rfl).1; have qp5 := (cell_of_block (k := 5) HQ.out rfl).1; have qp6 := (cell_of_block (k := 6) HQ.out rfl).1; have qp8 := (cell_of_block (k := 8) HQ.out rfl).1
              go_region
              all_goals (go_end0)
              all_goals
                refine ⟨rfl, Ax, cx, Bx, dx, ?_⟩
                rw [HRES.out, show firstF He (⟨f, t, pr, ttl, id, df, true, (o : Int), s⟩ : Pk) = { He with started := true, first := (⟨f, t, pr, ttl, id, df, true, (o : Int), s⟩ : Pk) } by unfold firstF; rw [if_pos ⟨by show (o : Int) = 0; rw [HO.out]; rfl, HST.out⟩]]
              · exact HE.out.first1 (⟨f, t, pr, ttl, id, df, true, (o : Int), s⟩ : Pk)
          · have t0 : ((o : Int) == 0) = false := by simp; omega
            have HO := Lib.hid ho; clear ho
            go_wp2_with fail
            go_end0
            refine ⟨rfl, Ax, cx, Bx, dx, ?_⟩
            rw [HRES.out, show firstF He (⟨f, t, pr, ttl, id, df, true, (o : Int), s⟩ : Pk) = He by unfold firstF; rw [if_neg (by rintro ⟨q, -⟩; have := HO.out; exact this (Int.ofNat_eq_zero.1 q))]]
            exact HE.out
  · have Hh := Lib.hid HS.out.half.1
    have qh2 := (cell_of_block (k := 2) Hh.out rfl).1
    rw [hL] at qh2
    clear hL
    have g1 : ¬ (0 < (o : Int) + (s.size : Int) - (L : Int)) := by omega
    go_wp2_with fail
    have HGX : Hid (growF H (o + s.size) = H) := Lib.hid (by unfold growF; rw [show o + s.size - H.by_.length = 0 by have := HL.out; omega]; simp)
    have HLX : Hid (o + s.size ≤ H.by_.length ∧ H.hv.length = H.by_.length) := Lib.hid ⟨by have := HL.out; omega, HLEN.out⟩
    have HNX := HN; have HCX := Lib.hid hc; have HPX := HP
    generalize hWx : w.alloc (.cells #[.int .i64 f, .int .i64 t, .int .i64 pr, .int .i64 ttl, .int .i64 id, .bool df, .bool mf, .int .i64 (o : Int), .string s] 48) = Wx at *
    generalize hHx : growF H (o + s.size) = Hx at *
    clear Hh qh2 HN HP
    have HGX' := HGX.out
    subst HGX'
    clear HGX hHx hWx HL hlen hs g1 hc HLEN
    obtain ⟨Ax, rfl⟩ : ∃ A, A = Ab := ⟨_, rfl⟩
    obtain ⟨Bx, rfl⟩ : ∃ A, A = Ah := ⟨_, rfl⟩
    obtain ⟨cx, rfl⟩ : ∃ A, A = cb := ⟨_, rfl⟩
    obtain ⟨dx, rfl⟩ : ∃ A, A = ch := ⟨_, rfl⟩
    go_loopw [6] (fun i wr => ∃ j : Nat, o ≤ j ∧ j ≤ o + s.size ∧ i = .int .i64 (j : Int) ∧ HSt S w wr hb (layN s o Hx (j - o)) Ax cx Bx dx ∧ wr.heap[w.heap.size]? = some (.cells #[.int .i64 f, .int .i64 t, .int .i64 pr, .int .i64 ttl, .int .i64 id, .bool df, .bool mf, .int .i64 (o : Int), .string s] 48)) (fun i _ => ((o : Int) + s.size - intOf i).toNat)
    case atStart => exact ⟨o, by omega, by omega, rfl, by rw [Nat.sub_self]; exact HS.out, HPX.out⟩
    case round =>
      obtain ⟨j, hj1, hj2, rfl, hS1, hP1⟩ := hrel
      have HS1 := Lib.hid hS1; have HP1 := Lib.hid hP1; clear hS1 hP1 HS HPX
      obtain ⟨k, hk⟩ : ∃ k, j = o + k := ⟨j - o, by omega⟩
      have hjk : j - o = k := by omega
      rw [hjk] at HS1
      have HJ := Lib.hid hk; have HJK := Lib.hid hjk; clear hk hjk
      obtain ⟨Hk, hHk⟩ : ∃ Hk, layN s o Hx k = Hk := ⟨_, rfl⟩
      have hl1 := (layN_len s o Hx k).1; have hl2 := (layN_len s o Hx k).2
      have hcn := layN_cnt s o Hx k
      rw [hHk] at HS1 hl1 hl2 hcn
      have HHK := Lib.hid hHk; clear hHk
      obtain ⟨Lb, hLb⟩ : ∃ Lb, Hk.by_.length = Lb := ⟨_, rfl⟩
      have hLh : Hk.hv.length = Lb := by have := HLX.out; omega
      have hL3 : o + s.size ≤ Lb := by have := HLX.out; omega
      have hc4 : 0 ≤ Hk.cnt ∧ Hk.cnt ≤ 8000 := by have := HCX.out; have := HJ.out; omega
      obtain ⟨C, hC⟩ : ∃ C, Hk.cnt = C := ⟨_, rfl⟩
      rw [hC] at hc4
      have Hh := Lib.hid HS1.out.half.1
      have qh2 := (cell_of_block (k := 2) Hh.out rfl).1; have qh3 := (cell_of_block (k := 3) Hh.out rfl).1
      have hSb := HS1.out.half.2.1; have hSh := HS1.out.half.2.2
      rw [hLb] at qh2; rw [hLh] at qh3
      have HLB := Lib.hid hLb; have HLH := Lib.hid hLh; have HC := Lib.hid hC
      clear hl1 hl2 hcn hLb hLh hC Hh
      by_cases hlt2 : j < o + s.size
      · obtain ⟨gb, rfl⟩ := hSb.addr (by simp only [byC, List.length_map]; have := HLB.out; omega)
        obtain ⟨gh, rfl⟩ := hSh.addr (by simp only [boC, List.length_map]; have := HLH.out; omega)
        have e1 : Hk.hv[j]? = some (Hk.hv[j]'(by have := HLH.out; omega)) := List.getElem?_eq_getElem _
        obtain ⟨y, hy⟩ : ∃ y, Hk.hv[j]? = some y := ⟨_, e1⟩
        clear e1
        have c2 := (hSh.cell (k := j) (u := .bool y) (by simp [boC, hy])).1
        have c2f := (hSh.cell (k := j) (u := .bool y) (by simp [boC, hy])).2
        have HY := Lib.hid hy; clear hy hSh hSb
        have j0 : (0 : Int) ≤ (j : Int) := by omega
        have j2 : (j : Int) < (Lb : Int) := by omega
        have j3 : decide ((j : Int) < (o : Int) + (s.size : Int)) = true := by simp; omega
        cases y with
        | true =>
          go_wp2_with fail
          refine ⟨⟨j + 1, by omega, by omega, by go_num, ?_, HP1.out⟩, by simp [intOf]; omega⟩
          rw [show j + 1 - o = k + 1 by have := HJ.out; omega]
          show HSt S w wr hb (laySet (layN s o Hx k) (o + k) _) _ _ _ _
          rw [HHK.out, laySet_there (by rw [← HJ.out]; exact HY.out)]
          exact HS1.out
        | false =>
          go_upto_region 11 with fail
          have HS2 := Lib.hid (HS1.out.setHv (k := j) true)
          have HP2 := Lib.hid (block_set_other (a := ⟨gh, j, none⟩) (u := .bool true) HP1.out (by have := HNX.out; intro q; exact this (.inr (.inr ⟨_, rfl, q⟩))))
          clear HS1 HP1 qh2 qh3 c2 c2f
          generalize wr.setCell ⟨gh, j, none⟩ (.bool true) = w1 at *
          have Hh := Lib.hid HS2.out.half.1
          have qh2 := (cell_of_block (k := 2) Hh.out rfl).1
          have qp7 := (cell_of_block (k := 7) HP2.out rfl).1; have qp8 := (cell_of_block (k := 8) HP2.out rfl).1
          have hx : Hk.by_[j]? = some (Hk.by_[j]'(by have := HLB.out; omega)) := List.getElem?_eq_getElem _
          have c1 := (HS2.out.half.2.1.cell (k := j) (u := .int .u8 ((Hk.by_[j]'(by have := HLB.out; omega)).toNat : Int)) (by simp [byC, hx]))
          obtain ⟨c1, c1f⟩ := c1
          generalize (Hk.by_[j]'(by have := HLB.out; omega)) = x0 at *
          have qh2' : w1.cell? ⟨hb, 2, none⟩ = some (.slice (some ⟨gb, 0, none⟩) Lb cx) := by rw [← HLB.out]; exact qh2
          clear qh2 Hh hx
          have hks : k < s.size := by have := HJ.out; omega
          have w9 : IntKind.i64.wrap ((j : Int) - (o : Int)) = (k : Int) := by rw [show (j : Int) - (o : Int) = (k : Int) by have := HJ.out; omega]; exact IntWalk.i64_in _ (by omega)
          have k2 : (0 : Int) ≤ (k : Int) := by omega
          have k3 : (k : Int) < (s.size : Int) := by omega
          go_still_tail 13, (by kernel_rfl)
          change wpList _ _ _ _ _ w1.drew
          have HS3 := Lib.hid HS2.out.drew
          have HP3 : Hid (w1.drew.heap[w.heap.size]? = some _) := Lib.hid HP2.out
          have d1 : w1.drew.cell? ⟨gb, j, none⟩ = some (.int .u8 (x0.toNat : Int)) := c1
          have d2 : w1.drew.frozen? ⟨gb, j, none⟩ = false := c1f
          clear c1 c1f qh2' HS2 HP2 qp7 qp8
          generalize w1.drew = w2 at *
          go_upto_region 12 with fail
          have HS4 := Lib.hid (HS3.out.setBy (k := j) s[k])
          have HP4 := Lib.hid (block_set_other (a := ⟨gb, j, none⟩) (u := .int .u8 ((s[k]).toNat : Int)) HP3.out (by have := HNX.out; intro q; exact this (.inr (.inl ⟨_, rfl, q⟩))))
          clear d1 d2 HS3 HP3
          generalize hw4 : w2.setCell ⟨gb, j, none⟩ (.int .u8 ((s[k]).toNat : Int)) = w4 at *
          clear hw4
          have Hh := Lib.hid HS4.out.half.1
          have qh4 := (cell_of_block (k := 4) Hh.out rfl).1; have zh4 := (cell_of_block (k := 4) Hh.out rfl).2
          have qh4' : w4.cell? ⟨hb, 4, none⟩ = some (.int .i64 C) := by rw [← HC.out]; exact qh4
          clear qh4
          go_wp2_with fail
          have HS5 := HS4.out.field (only_set (World.grownBy.refl w4 (some hb)) (.inl rfl) (.int .i64 (C + 1)) (p := ⟨hb, 4, none⟩)) { Hk with hv := Hk.hv.set j true, by_ := Hk.by_.set j s[k], cnt := Hk.cnt + 1 } (by rw [block_setCell (k := 4) (v := .int .i64 (C + 1)) Hh.out, HC.out]; simp) rfl rfl
          refine ⟨⟨j + 1, by omega, by omega, by go_num, ?_, block_set_other HP4.out (by show hb ≠ w.heap.size; omega)⟩, by simp [intOf]; omega⟩
          rw [show j + 1 - o = k + 1 by have := HJ.out; omega]
          show HSt S w _ hb (laySet (layN s o Hx k) (o + k) _) _ _ _ _
          rw [HHK.out, laySet_new (by rw [← HJ.out]; exact HY.out), getD_lt s k hks, ← HJ.out]
          exact HS5
      · obtain rfl : j = o + s.size := by omega
        have hks : k = s.size := by have := HJ.out; omega
        have j3 : decide (((o + s.size : Nat) : Int) < (o : Int) + (s.size : Int)) = false := by simp
        subst hks
        have qp6 := (cell_of_block (k := 6) HP1.out rfl).1; have qp7 := (cell_of_block (k := 7) HP1.out rfl).1
        have Hh := Lib.hid HS1.out.half.1
        have qh5 := (cell_of_block (k := 5) Hh.out rfl).1; have zh5 := (cell_of_block (k := 5) Hh.out rfl).2
        have qh6 := (cell_of_block (k := 6) Hh.out rfl).1; have zh6 := (cell_of_block (k := 6) Hh.out rfl).2
        clear qh2 qh3 hSb hSh hc4 hL3
        cases mf
        · go_upto_region 15 with fail
          have HS5 := HS1.out.field (only_set (only_set (World.grownBy.refl wr (some hb)) (.inl rfl) (.bool true) (p := ⟨hb, 5, none⟩)) (.inl rfl) (.int .i64 ((o : Int) + (s.size : Int))) (p := ⟨hb, 6, none⟩)) { Hk with ended := true, en := (o : Int) + (s.size : Int) } (by rw [block_setCell (k := 6) (v := .int .i64 ((o : Int) + (s.size : Int))) (block_setCell (k := 5) (v := .bool true) Hh.out)]; simp) rfl rfl
          obtain ⟨He, hHe⟩ : ∃ He, endF Hk (⟨f, t, pr, ttl, id, df, false, (o : Int), s⟩ : Pk) = He := ⟨_, rfl⟩
          have HE : Hid (HSt S w ((wr.setCell ⟨hb, 5, none⟩ (.bool true)).setCell ⟨hb, 6, none⟩ (.int .i64 ((o : Int) + (s.size : Int)))) hb He Ax cx Bx dx) := Lib.hid (hHe ▸ HS5)
          have HQ := Lib.hid (block_set_other (a := ⟨hb, 6, none⟩) (u := .int .i64 ((o : Int) + (s.size : Int))) (block_set_other (a := ⟨hb, 5, none⟩) (u := .bool true) HP1.out (by show hb ≠ w.heap.size; omega)) (by show hb ≠ w.heap.size; omega))
          have HED := Lib.hid hHe
          clear HS5 hHe HS1 HP1 Hh qp6 qp7 qh5 zh5 qh6 zh6
          generalize (wr.setCell ⟨hb, 5, none⟩ (.bool true)).setCell ⟨hb, 6, none⟩ (.int .i64 ((o : Int) + (s.size : Int))) = we at *
          have Hh := Lib.hid HE.out.half.1
          have qh7 := (cell_of_block (k := 7) Hh.out rfl).1; have zh7 := (cell_of_block (k := 7) Hh.out rfl).2
          have qp7 := (cell_of_block (k := 7) HQ.out rfl).1
          obtain ⟨St, hSt⟩ : ∃ b, He.started = b := ⟨_, rfl⟩
          rw [hSt] at qh7
          have HST := Lib.hid hSt; clear hSt
          have HRES : Hid (firstF (endF (layN s o Hx s.size) (⟨f, t, pr, ttl, id, df, false, (o : Int), s⟩ : Pk)) (⟨f, t, pr, ttl, id, df, false, (o : Int), s⟩ : Pk) = firstF He (⟨f, t, pr, ttl, id, df, false, (o : Int), s⟩ : Pk)) := Lib.hid (by rw [HHK.out, HED.out])
          by_cases ho : o = 0
          · have t0 : ((o : Int) == 0) = true := by simp; omega
            have HO := Lib.hid ho; clear ho
            cases St with
            | true =>
              go_wp2_with fail
              go_end0
              refine ⟨rfl, Ax, cx, Bx, dx, ?_⟩
              rw [HRES.out, show firstF He (⟨f, t, pr, ttl, id, df, false, (o : Int), s⟩ : Pk) = He by unfold firstF; rw [if_neg (by rw [HST.out]; simp)]]
              exact HE.out
            | false =>
              go_upto_region 16 with fail
              have qh7 := (cell_of_block (k := 7) Hh.out rfl).1; have zh7 := (cell_of_block (k := 7) Hh.out rfl).2; have qh8 := (cell_of_block (k := 8) Hh.out rfl).1; have zh8 := (cell_of_block (k := 8) Hh.out rfl).2; have qh9 := (cell_of_block (k := 9) Hh.out rfl).1; have zh9 := (cell_of_block (k := 9) Hh.out rfl).2; have qh10 := (cell_of_block (k := 10) Hh.out rfl).1; have zh10 := (cell_of_block (k := 10) Hh.out rfl).2; have qh11 := (cell_of_block (k := 11) Hh.out rfl).1; have zh11 := (cell_of_block (k := 11) Hh.out rfl).2; have qh12 := (cell_of_block (k := 12) Hh.out rfl).1; have zh12 := (cell_of_block (k := 12) Hh.out rfl).2; have qh13 := (cell_of_block (k := 13) Hh.out rfl).1; have zh13 := (cell_of_block (k := 13) Hh.out rfl).2; have qh14 := (cell_of_block (k := 14) Hh.out rfl).1; have zh14 := (cell_of_block (k := 14) Hh.out rfl).2; have qh15 := (cell_of_block (k := 15) Hh.out rfl).1; have zh15 := (cell_of_block (k := 15) Hh.out rfl).2; have qh16 := (cell_of_block (k := 16) Hh.out rfl).1; have zh16 := (cell_of_block (k := 16) Hh.out rfl).2; have lt_h := blk_lt Hh.out
              have qp0 := (cell_of_block (k := 0) HQ.out rfl).1; have qp1 := (cell_of_block (k := 1) HQ.out rfl).1; have qp2 := (cell_of_block (k := 2) HQ.out rfl).1; have qp3 := (cell_of_block (k := 3) HQ.out rfl).1; have qp4 := (cell_of_block (k := 4) HQ.out rfl).1; have qp5 := (cell_of_block (k := 5) HQ.out rfl).1; have qp6 := (cell_of_block (k := 6) HQ.out rfl).1; have qp8 := (cell_of_block (k := 8) HQ.out rfl).1
              go_region
              all_goals (go_end0)
              all_goals
                refine ⟨rfl, Ax, cx, Bx, dx, ?_⟩
                rw [HRES.out, show firstF He (⟨f, t, pr, ttl, id, df, false, (o : Int), s⟩ : Pk) = { He with started := true, first := (⟨f, t, pr, ttl, id, df, false, (o : Int), s⟩ : Pk) } by unfold firstF; rw [if_pos ⟨by show (o : Int) = 0; rw [HO.out]; rfl, HST.out⟩]]
              · exact HE.out.first1 (⟨f, t, pr, ttl, id, df, false, (o : Int), s⟩ : Pk)
          · have t0 : ((o : Int) == 0) = false := by simp; omega
            have HO := Lib.hid ho; clear ho
            go_wp2_with fail
            go_end0
            refine ⟨rfl, Ax, cx, Bx, dx, ?_⟩
            rw [HRES.out, show firstF He (⟨f, t, pr, ttl, id, df, false, (o : Int), s⟩ : Pk) = He by unfold firstF; rw [if_neg (by rintro ⟨q, -⟩; have := HO.out; exact this (Int.ofNat_eq_zero.1 q))]]
            exact HE.out
        · go_upto_region 15 with fail
          obtain ⟨He, hHe⟩ : ∃ He, endF Hk (⟨f, t, pr, ttl, id, df, true, (o : Int), s⟩ : Pk) = He := ⟨_, rfl⟩
          have HE : Hid (HSt S w wr hb He Ax cx Bx dx) := Lib.hid (hHe ▸ HS1.out)
          have HQ := HP1
          have HED := Lib.hid hHe
          clear hHe HS1 HP1 Hh qp6 qp7 qh5 zh5 qh6 zh6
          have Hh := Lib.hid HE.out.half.1
          have qh7 := (cell_of_block (k := 7) Hh.out rfl).1; have zh7 := (cell_of_block (k := 7) Hh.out rfl).2
          have qp7 := (cell_of_block (k := 7) HQ.out rfl).1
          obtain ⟨St, hSt⟩ : ∃ b, He.started = b := ⟨_, rfl⟩
          rw [hSt] at qh7
          have HST := Lib.hid hSt; clear hSt
          have HRES : Hid (firstF (endF (layN s o Hx s.size) (⟨f, t, pr, ttl, id, df, true, (o : Int), s⟩ : Pk)) (⟨f, t, pr, ttl, id, df, true, (o : Int), s⟩ : Pk) = firstF He (⟨f, t, pr, ttl, id, df, true, (o : Int), s⟩ : Pk)) := Lib.hid (by rw [HHK.out, HED.out])
          by_cases ho : o = 0
          · have t0 : ((o : Int) == 0) = true := by simp; omega
            have HO := Lib.hid ho; clear ho
            cases St with
            | true =>
              go_wp2_with fail
              go_end0
              refine ⟨rfl, Ax, cx, Bx, dx, ?_⟩
              rw [HRES.out, show firstF He (⟨f, t, pr, ttl, id, df, true, (o : Int), s⟩ : Pk) = He by unfold firstF; rw [if_neg (by rw [HST.out]; simp)]]
              exact HE.out
            | false =>
              go_upto_region 16 with fail
              have qh7 := (cell_of_block (k := 7) Hh.out rfl).1; have zh7 := (cell_of_block (k := 7) Hh.out rfl).2; have qh8 := (cell_of_block (k := 8) Hh.out rfl).1; have zh8 := (cell_of_block (k := 8) Hh.out rfl).2; have qh9 := (cell_of_block (k := 9) Hh.out rfl).1; have zh9 := (cell_of_block (k := 9) Hh.out rfl).2; have qh10 := (cell_of_block (k := 10) Hh.out rfl).1; have zh10 := (cell_of_block (k := 10) Hh.out rfl).2; have qh11 := (cell_of_block (k := 11) Hh.out rfl).1; have zh11 := (cell_of_block (k := 11) Hh.out rfl).2; have qh12 := (cell_of_block (k := 12) Hh.out rfl).1; have zh12 := (cell_of_block (k := 12) Hh.out rfl).2; have qh13 := (cell_of_block (k := 13) Hh.out rfl).1; have zh13 := (cell_of_block (k := 13) Hh.out rfl).2; have qh14 := (cell_of_block (k := 14) Hh.out rfl).1; have zh14 := (cell_of_block (k := 14) Hh.out rfl).2; have qh15 := (cell_of_block (k := 15) Hh.out rfl).1; have zh15 := (cell_of_block (k := 15) Hh.out rfl).2; have qh16 := (cell_of_block (k := 16) Hh.out rfl).1; have zh16 := (cell_of_block (k := 16) Hh.out rfl).2; have lt_h := blk_lt Hh.out
              have qp0 := (cell_of_block (k := 0) HQ.out rfl).1; have qp1 := (cell_of_block (k := 1) HQ.out rfl).1; have qp2 := (cell_of_block (k := 2) HQ.out rfl).1; have qp3 := (cell_of_block (k := 3) HQ.out rfl).1; have qp4 := (cell_of_block (k := 4) HQ.out rfl).1; have qp5 := (cell_of_block (k := 5) HQ.out rfl).1; have qp6 := (cell_of_block (k := 6) HQ.out rfl).1; have qp8 := (cell_of_block (k := 8) HQ.out rfl).1
              go_region
              all_goals (go_end0)
              all_goals
                refine ⟨rfl, Ax, cx, Bx, dx, ?_⟩
                rw [HRES.out, show firstF He (⟨f, t, pr, ttl, id, df, true, (o : Int), s⟩ : Pk) = { He with started := true, first := (⟨f, t, pr, ttl, id, df, true, (o : Int), s⟩ : Pk) } by unfold firstF; rw [if_pos ⟨by show (o : Int) = 0; rw [HO.out]; rfl, HST.out⟩]]
              · exact HE.out.first1 (⟨f, t, pr, ttl, id, df, true, (o : Int), s⟩ : Pk)
          · have t0 : ((o : Int) == 0) = false := by simp; omega
            have HO := Lib.hid ho; clear ho
            go_wp2_with fail
            go_end0
            refine ⟨rfl, Ax, cx, Bx, dx, ?_⟩
            rw [HRES.out, show firstF He (⟨f, t, pr, ttl, id, df, true, (o : Int), s⟩ : Pk) = He by unfold firstF; rw [if_neg (by rintro ⟨q, -⟩; have := HO.out; exact this (Int.ofNat_eq_zero.1 q))]]
            exact HE.out
theorem store_any (H : Hf) (p : Pk) (hb : Nat) (Ab : Option Addr) (cb : Nat) (Ah : Option Addr) (ch : Nat) (w : World) (S : Nat → Prop) (hH : HalfB w hb H Ab cb Ah ch) (hd : Dis hb Ab Ah) (hS : ∀ k, In3 hb Ab Ah k → S k) (hSl : ∀ k, S k → k < w.heap.size)
    (hlen : H.hv.length = H.by_.length) (h0 : 0 ≤ p.off) (hm : p.off + p.s.size ≤ 4000) (hs : H.by_.length ≤ 4000) (hc : 0 ≤ H.cnt ∧ H.cnt ≤ 4000) :
    Calls Tryz.prog 49 #[.pointer (some ⟨hb, 0, none⟩), .agg #[.int .i64 p.f, .int .i64 p.t, .int .i64 p.pr, .int .i64 p.ttl, .int .i64 p.id, .bool p.df, .bool p.mf, .int .i64 p.off, .string p.s]] w (StorePost S w hb (storeF H p)) := by
  obtain ⟨f, t, pr, ttl, id, df, mf, off, s⟩ := p
  obtain ⟨o, rfl⟩ := Int.eq_ofNat_of_zero_le (show 0 ≤ off from h0)
  exact store_aux H f t pr ttl id df mf o s hb Ab cb Ah ch w S hH hd hS hSl hlen (by have : (o : Int) + s.size ≤ 4000 := hm; omega) hs hc
end Go.Proofs.YtmgjcjacoegocaaGreatDoor.Re

namespace Go.Proofs.YtmgjcjacoegocaaGreatDoor.Re
set_option maxRecDepth 100000
open Go.RowKit Go.Proofs.YtmgjcjacoegocaaGreatDoor.Wire

def enV (e : Ky) : Value := .agg #[.int .i64 e.f, .int .i64 e.t, .int .i64 e.p, .int .i64 e.i]
/-- entry i of the cells is e -/
def At (cur : Array Value) (i : Nat) (e : Ky) : Prop := cur[i * 4]? = some (.int .i64 e.f) ∧ cur[i * 4 + 1]? = some (.int .i64 e.t) ∧ cur[i * 4 + 2]? = some (.int .i64 e.p) ∧ cur[i * 4 + 3]? = some (.int .i64 e.i)
/-- block g holds c entries, of which P tells some -/
def RowP (W : World) (g c : Nat) (T : TypeId) (P : Nat → Ky → Prop) : Prop := ∃ cur, W.heap[g]? = some (.cells cur T (0, 0)) ∧ cur.size = c * 4 ∧ ∀ i e, P i e → i < c ∧ At cur i e
theorem RowP.mono {W : World} {g c : Nat} {T : TypeId} {P Q : Nat → Ky → Prop} (h : RowP W g c T P) (hq : ∀ i e, Q i e → P i e) : RowP W g c T Q := by
  obtain ⟨cur, h1, h2, h3⟩ := h
  exact ⟨cur, h1, h2, fun i e q => h3 i e (hq i e q)⟩
theorem RowP.lt {W : World} {g c : Nat} {T : TypeId} {P : Nat → Ky → Prop} (h : RowP W g c T P) : g < W.heap.size := by obtain ⟨cur, h1, -⟩ := h; exact blk_lt h1
theorem RowP.below {W W' : World} {g c : Nat} {T : TypeId} {P : Nat → Ky → Prop} (h : RowP W g c T P) (hb : Below W.heap.size W W') : RowP W' g c T P := by
  obtain ⟨cur, h1, h2⟩ := h
  exact ⟨cur, bblock hb h1, h2⟩
theorem RowP.alloc {W : World} {g c : Nat} {T : TypeId} {P : Nat → Ky → Prop} (h : RowP W g c T P) (o : Obj) : RowP (W.alloc o) g c T P := by
  obtain ⟨cur, h1, h2⟩ := h
  exact ⟨cur, block_alloc h1 o, h2⟩
theorem RowP.drew {W : World} {g c : Nat} {T : TypeId} {P : Nat → Ky → Prop} (h : RowP W g c T P) : RowP W.drew g c T P := h
theorem RowP.other {W W' : World} {g c B : Nat} {T : TypeId} {P : Nat → Ky → Prop} (h : RowP W g c T P) (hg : W.grownBy W' (some B)) (hne : g ≠ B) : RowP W' g c T P := by
  obtain ⟨cur, h1, h2⟩ := h
  exact ⟨cur, bblock_only hg h1 hne, h2⟩
theorem RowP.setOther {W : World} {g c : Nat} {T : TypeId} {P : Nat → Ky → Prop} (h : RowP W g c T P) {p : Addr} (hp : p.block ≠ g) (u : Value) : RowP (W.setCell p u) g c T P := by
  obtain ⟨cur, h1, h2⟩ := h
  exact ⟨cur, block_set_other h1 hp, h2⟩
theorem RowP.cells {W : World} {g c : Nat} {T : TypeId} {P : Nat → Ky → Prop} (h : RowP W g c T P) (i : Nat) (e : Ky) (he : P i e) :
    W.cell? ⟨g, i * 4, none⟩ = some (.int .i64 e.f) ∧ W.cell? ⟨g, i * 4 + 1, none⟩ = some (.int .i64 e.t) ∧ W.cell? ⟨g, i * 4 + 2, none⟩ = some (.int .i64 e.p) ∧ W.cell? ⟨g, i * 4 + 3, none⟩ = some (.int .i64 e.i) := by
  obtain ⟨cur, h1, h2, h3⟩ := h
  obtain ⟨-, q0, q1, q2, q3⟩ := h3 i e he
  exact ⟨(cell_of_block h1 q0).1, (cell_of_block h1 q1).1, (cell_of_block h1 q2).1, (cell_of_block h1 q3).1⟩
/-- any cell of the row is there -/
theorem RowP.any {W : World} {g c : Nat} {T : TypeId} {P : Nat → Ky → Prop} (h : RowP W g c T P) (k : Nat) (hk : k < c * 4) : (W.cell? ⟨g, k, none⟩).isSome = true ∧ W.frozen? ⟨g, k, none⟩ = false := by
  obtain ⟨cur, h1, h2, -⟩ := h
  have e : cur[k]? = some cur[k] := Array.getElem?_eq_getElem (by omega)
  obtain ⟨c1, c2⟩ := cell_of_block h1 e
  exact ⟨by rw [c1]; rfl, c2⟩
theorem RowP.froz {W : World} {g c : Nat} {T : TypeId} {P : Nat → Ky → Prop} (h : RowP W g c T P) (k : Nat) : W.frozen? ⟨g, k, none⟩ = false := by
  obtain ⟨cur, h1, h2, -⟩ := h
  exact blk_frozen (blk_of h1)
/-- entry i is written -/
theorem RowP.set {W : World} {g c : Nat} {T : TypeId} {P Q : Nat → Ky → Prop} (h : RowP W g c T P) (i : Nat) (hi : i < c) (e : Ky) (hq : ∀ j x, Q j x → (j = i ∧ x = e) ∨ (j ≠ i ∧ P j x)) :
    RowP ((((W.setCell ⟨g, i * 4, none⟩ (.int .i64 e.f)).setCell ⟨g, i * 4 + 1, none⟩ (.int .i64 e.t)).setCell ⟨g, i * 4 + 2, none⟩ (.int .i64 e.p)).setCell ⟨g, i * 4 + 3, none⟩ (.int .i64 e.i)) g c T Q := by
  obtain ⟨cur, h1, h2, h3⟩ := h
  refine ⟨_, block_setCell (block_setCell (block_setCell (block_setCell h1))), by simpa using h2, fun j x hx => ?_⟩
  rcases hq j x hx with ⟨rfl, rfl⟩ | ⟨hne, hp⟩
  · refine ⟨hi, ?_, ?_, ?_, ?_⟩
    · rw [Array.getElem?_setIfInBounds_ne (by omega), Array.getElem?_setIfInBounds_ne (by omega), Array.getElem?_setIfInBounds_ne (by omega), Array.getElem?_setIfInBounds_self, if_pos (by omega)]
    · rw [Array.getElem?_setIfInBounds_ne (by omega), Array.getElem?_setIfInBounds_ne (by omega), Array.getElem?_setIfInBounds_self, if_pos (by simp; omega)]
    · rw [Array.getElem?_setIfInBounds_ne (by omega), Array.getElem?_setIfInBounds_self, if_pos (by simp; omega)]
    · rw [Array.getElem?_setIfInBounds_self, if_pos (by simp; omega)]
  · obtain ⟨hj, q0, q1, q2, q3⟩ := h3 j x hp
    refine ⟨hj, ?_, ?_, ?_, ?_⟩
    all_goals
      rw [Array.getElem?_setIfInBounds_ne (by omega), Array.getElem?_setIfInBounds_ne (by omega), Array.getElem?_setIfInBounds_ne (by omega), Array.getElem?_setIfInBounds_ne (by omega)]
      first | exact q0 | exact q1 | exact q2 | exact q3
/-- cells from o on are written: the entries ahead stay -/
theorem setCells_block {g : Nat} {T : TypeId} : ∀ (vs : List Value) (o : Nat) (W : World) (cur : Array Value), W.heap[g]? = some (.cells cur T (0, 0)) →
    ∃ cur', (W.setCells g o vs).heap[g]? = some (.cells cur' T (0, 0)) ∧ cur'.size = cur.size ∧ (∀ k, k < o → cur'[k]? = cur[k]?) ∧ (∀ k, o + vs.length ≤ k → cur'[k]? = cur[k]?) ∧ ∀ k u, vs[k]? = some u → o + k < cur.size → cur'[o + k]? = some u
  | [], o, W, cur, h => ⟨cur, h, rfl, fun _ _ => rfl, fun _ _ => rfl, fun k u hu => by simp at hu⟩
  | v :: vs, o, W, cur, h => by
    obtain ⟨cur', h1, h2, h3, h4, h5⟩ := setCells_block vs (o + 1) (W.setCell ⟨g, o, none⟩ v) _ (block_setCell h)
    refine ⟨cur', h1, by simpa using h2, fun k hk => ?_, fun k hk => ?_, fun k u hu hk => ?_⟩
    · rw [h3 k (by omega), Array.getElem?_setIfInBounds_ne (by omega)]
    · rw [h4 k (by simp at hk; omega), Array.getElem?_setIfInBounds_ne (by simp at hk; omega)]
    · cases k with
      | zero =>
        simp at hu; subst hu
        rw [Nat.add_zero, h3 o (by omega), Array.getElem?_setIfInBounds_self, if_pos (by omega)]
      | succ k =>
        have := h5 k u (by simpa using hu) (by simp; omega)
        rw [show o + (k + 1) = o + 1 + k by omega]; exact this
theorem RowP.setCells {W : World} {g c : Nat} {T : TypeId} {P Q : Nat → Ky → Prop} (h : RowP W g c T P) (i : Nat) (vs : List Value) (hq : ∀ j x, Q j x → P j x ∧ j < i) : RowP (W.setCells g (i * 4) vs) g c T Q := by
  obtain ⟨cur, h1, h2, h3⟩ := h
  obtain ⟨cur', k1, k2, k3, -, -⟩ := setCells_block vs (i * 4) W cur h1
  refine ⟨cur', k1, by omega, fun j x hx => ?_⟩
  obtain ⟨hp, hj⟩ := hq j x hx
  obtain ⟨hc, q0, q1, q2, q3⟩ := h3 j x hp
  exact ⟨hc, (k3 _ (by omega)).trans q0, (k3 _ (by omega)).trans q1, (k3 _ (by omega)).trans q2, (k3 _ (by omega)).trans q3⟩
theorem only_setCells {a : World} {g : Nat} : ∀ (vs : List Value) (o : Nat) {w : World}, a.grownBy w (some g) → a.grownBy (w.setCells g o vs) (some g)
  | [], _, _, h => h
  | v :: vs, o, _, h => only_setCells vs (o + 1) (only_set h (.inl rfl) v)
/-- the cells of entries -/
def enCells (l : List Ky) : List Value := l.flatMap fun e => [.int .i64 e.f, .int .i64 e.t, .int .i64 e.p, .int .i64 e.i]
theorem enCells_length (l : List Ky) : (enCells l).length = l.length * 4 := by
  unfold enCells
  induction l with
  | nil => rfl
  | cons a l ih => simp [ih]; omega
theorem enCells_get : ∀ (l : List Ky) (i : Nat) (e : Ky), l[i]? = some e → (enCells l)[i * 4]? = some (.int .i64 e.f) ∧ (enCells l)[i * 4 + 1]? = some (.int .i64 e.t) ∧ (enCells l)[i * 4 + 2]? = some (.int .i64 e.p) ∧ (enCells l)[i * 4 + 3]? = some (.int .i64 e.i)
  | [], i, x, h => by simp at h
  | a :: l, 0, x, h => by simp at h; subst h; simp [enCells]
  | a :: l, i + 1, x, h => by
    have := enCells_get l i x (by simpa using h)
    have e : enCells (a :: l) = .int .i64 a.f :: .int .i64 a.t :: .int .i64 a.p :: .int .i64 a.i :: enCells l := rfl
    rw [e]
    have e1 : (i + 1) * 4 = i * 4 + 1 + 1 + 1 + 1 := by omega
    rw [e1]
    simpa using this
theorem enCells_one (l : List Ky) : ∀ u ∈ enCells l, u.oneCell' = true := by
  intro u hu
  unfold enCells at hu
  rw [List.mem_flatMap] at hu
  obtain ⟨e, -, h⟩ := hu
  simp at h
  rcases h with rfl | rfl | rfl | rfl <;> rfl
theorem RowP.lay {W : World} {g c : Nat} {T : TypeId} {P : Nat → Ky → Prop} (h : RowP W g c T P) (l : List Ky) (hl : l.length ≤ c) : RowP (W.setCells g 0 (enCells l)) g c T (fun i e => l[i]? = some e) := by
  obtain ⟨cur, h1, h2, h3⟩ := h
  obtain ⟨cur', k1, k2, -, -, k5⟩ := setCells_block (enCells l) 0 W cur h1
  refine ⟨cur', k1, by omega, fun j x hx => ?_⟩
  have hj : j < l.length := (List.getElem?_eq_some_iff.1 hx).1
  obtain ⟨q0, q1, q2, q3⟩ := enCells_get l j x hx
  have key : ∀ k u, (enCells l)[k]? = some u → k < c * 4 → cur'[k]? = some u := fun k u hu hk => by
    have := k5 k u hu (by omega)
    rwa [Nat.zero_add] at this
  exact ⟨by omega, key _ _ q0 (by omega), key _ _ q1 (by omega), key _ _ q2 (by omega), key _ _ q3 (by omega)⟩
/-- clear(s), s a slice of structs of four integers -/
theorem zeroCells_four (n : Nat) : (Builtin.zeroCells #[.int .i64 0, .int .i64 0, .int .i64 0, .int .i64 0] n).toList.length = n * 4 ∧ ∀ v ∈ (Builtin.zeroCells #[.int .i64 0, .int .i64 0, .int .i64 0, .int .i64 0] n).toList, v.oneCell' = true := by
  refine ⟨by simp [Builtin.zeroCells], fun v hv => ?_⟩
  simp only [Builtin.zeroCells, Array.toList_map, List.mem_map] at hv
  obtain ⟨i, -, rfl⟩ := hv
  have : i % 4 < 4 := Nat.mod_lt _ (by omega)
  generalize i % 4 = j at *
  match j, this with
  | 0, _ => rfl
  | 1, _ => rfl
  | 2, _ => rfl
  | 3, _ => rfl
theorem run_clear_four {P : Program} (w : World) (t e ty : TypeId) (ht : P.underlying t = some (.slice e)) (hv : ∀ w, (zeroValue e).run P w = .ok (.agg #[.int .i64 0, .int .i64 0, .int .i64 0, .int .i64 0]) w) (b o n c : Nat) (hn : 0 < n)
    (hc : ∀ j, j < n * 4 → (w.cell? ⟨b, o + j, none⟩).isSome = true) (hf : ∀ j, j < n * 4 → w.frozen? ⟨b, o + j, none⟩ = false) :
    (Builtin.clear_ #[t] ty #[.slice (some ⟨b, o, none⟩) n c]).run P w = .ok (.tuple #[]) (w.setCells b o (Builtin.zeroCells #[.int .i64 0, .int .i64 0, .int .i64 0, .int .i64 0] n).toList) := by
  obtain ⟨hl, h1⟩ := zeroCells_four n
  have hst := run_storeCells_cells (P := P) b o (Builtin.zeroCells #[.int .i64 0, .int .i64 0, .int .i64 0, .int .i64 0] n).toList 0 w (by rw [hl]; simpa using hc) (by rw [hl]; simpa using hf) h1
  simp only [Nat.add_zero] at hst
  obtain ⟨m, rfl⟩ : ∃ m, n = m + 1 := ⟨n - 1, by omega⟩
  simp [Builtin.clear_, run_underlying ht, hv, hst, Value.cells]

/-- the function value answers the test p, whatever has become of block g -/
def Tests (fn : Nat) (lb : Array Value) (p : Ky → Bool) (g : Nat) (l : List Ky) (w : World) : Prop := ∀ (e : Ky) (_ : e ∈ l) (W : World), w.grownBy W (some g) →
  Calls Tryz.prog fn (#[enV e] ++ lb) W fun x W' => x = .returned (.bool (p e)) ∧ Below W.heap.size W W'
/-- the first place at which p holds -/
def idxI (p : Ky → Bool) (l : List Ky) : Int := match l.findIdx? p with | some i => (i : Int) | none => -1
theorem idxI_none {p : Ky → Bool} {l : List Ky} (h : ∀ (j : Nat) (e : Ky), l[j]? = some e → p e = false) : idxI p l = -1 := by
  unfold idxI
  rw [List.findIdx?_eq_none_iff.2 (fun e he => by obtain ⟨j, hj⟩ := List.getElem?_of_mem he; exact h j e hj)]
theorem idxI_some {p : Ky → Bool} {l : List Ky} {k : Nat} {x : Ky} (hx : l[k]? = some x) (hp : p x = true) (h : ∀ (j : Nat) (e : Ky), j < k → l[j]? = some e → p e = false) : idxI p l = (k : Int) := by
  unfold idxI
  obtain ⟨hk, rfl⟩ := List.getElem?_eq_some_iff.1 hx
  have : l.findIdx? p = some k := by
    rw [List.findIdx?_eq_some_iff_getElem]
    exact ⟨hk, hp, fun j hj => by rw [h j _ hj (List.getElem?_eq_getElem (by omega))]; simp⟩
  rw [this]
set_option maxHeartbeats 2000000 in
theorem index_any (fn : Nat) (lb : Array Value) (eg : ∀ args w, (callFunc fn args).run Tryz.prog w = .ok (.enter fn args) w) (p : Ky → Bool) (g c : Nat) (l : List Ky) (w : World) (hl : l.length ≤ 9223372036854775807)
    (hr : RowP w g c 128 (fun i e => l[i]? = some e)) (hp : Tests fn lb p g l w) :
    Calls Tryz.prog 117 #[.slice (some ⟨g, 0, none⟩) l.length c, .func (.func fn) #[] lb] w fun x w' => x = .returned (.int .i64 (idxI p l)) ∧ Below w.heap.size w w' := by
  have HR := Lib.hid hr; have HP := Lib.hid hp; clear hr hp
  have HB := Below.refl w.heap.size w
  obtain ⟨n, hn⟩ : ∃ n, n = l.length := ⟨_, rfl⟩
  rw [← hn] at hl ⊢
  have HN := Lib.hid hn; clear hn
  go_enter Tryz.func117, Tryz.ntmps117
  go_wp2_with fail
  go_loopw [5, 8] (fun _ i wr => ∃ k : Nat, k ≤ n ∧ i = .int .i64 (k : Int) ∧ (∀ (j : Nat) (e : Ky), j < k → l[j]? = some e → p e = false) ∧ Below w.heap.size w wr) (fun _ i _ => n - (Go.RowKit.intOf i).toNat)
  case atStart => exact ⟨0, by omega, rfl, fun j e hj => by omega, HB⟩
  case round =>
    clear HB
    obtain ⟨k, hk, rfl, hok, HB⟩ := hrel
    have HO := Lib.hid hok; clear hok
    by_cases hlt : k < n
    · have k1 : (0 : Int) ≤ (k : Int) := by omega
      have k2 : (k : Int) < (n : Int) := by omega
      obtain ⟨x, hx⟩ : ∃ x, l[k]? = some x := ⟨l[k]'(by rw [← HN.out]; exact hlt), List.getElem?_eq_getElem _⟩
      obtain ⟨c0, c1, c2, c3⟩ := HR.out.cells k x hx
      have hgl := HR.out.lt
      have d0 := (HB.cell (p := ⟨g, k * 4, none⟩) hgl).trans c0
      have d1 := (HB.cell (p := ⟨g, k * 4 + 1, none⟩) hgl).trans c1
      have d2 := (HB.cell (p := ⟨g, k * 4 + 2, none⟩) hgl).trans c2
      have d3 := (HB.cell (p := ⟨g, k * 4 + 3, none⟩) hgl).trans c3
      have HX := Lib.hid hx; clear hx c0 c1 c2 c3
      have HC : Hid (∀ W, Below wr.heap.size wr W → Calls Tryz.prog fn (#[enV x] ++ lb) W fun x' W' => x' = .returned (.bool (p x)) ∧ Below W.heap.size W W') := Lib.hid fun W hb => HP.out x (List.mem_of_getElem? HX.out) W (only_of_below (below_call HB hb))
      unfold enV at HC
      cases hq : p x with
      | true =>
        rw [hq] at HC
        go_wp2_with (go_at_fn fn; refine (HC.out _ (by first | exact Below.refl _ _ | exact (Below.refl _ _).drew)).mono ?_; rintro e w' ⟨rfl, hb⟩)
        go_ret
        exact ⟨by rw [idxI_some HX.out hq (fun j e hj => HO.out j e hj)]; rfl, below_call HB hb⟩
      | false =>
        rw [hq] at HC
        go_wp2_with (go_at_fn fn; refine (HC.out _ (by first | exact Below.refl _ _ | exact (Below.refl _ _).drew)).mono ?_; rintro e w' ⟨rfl, hb⟩)
        refine ⟨⟨k + 1, by omega, by go_num, fun j e hj he => ?_, below_call HB hb⟩, by simp [Go.RowKit.intOf]; omega⟩
        rcases Nat.lt_succ_iff_lt_or_eq.1 hj with q | q
        · exact HO.out j e q he
        · subst q; rw [HX.out] at he; cases he; exact hq
    · have hltz : ¬ (k : Int) < (n : Int) := by omega
      have HK : Hid (k = n) := Lib.hid (by omega)
      go_wp2_with fail
      go_ret
      exact ⟨by rw [idxI_none (fun j e he => HO.out j e (by rw [HK.out, HN.out]; exact (List.getElem?_eq_some_iff.1 he).1) he)]; rfl, HB⟩
/-- what DeleteFunc leaves -/
def keepL (p : Ky → Bool) (l : List Ky) : List Ky := l.filter fun e => !p e
/-- the second loop: m entries looked at, k of them kept -/
structure Half (p : Ky → Bool) (l : List Ky) (m k : Nat) : Prop where
  len : (keepL p (l.take m)).length = k
  lt : k < m
theorem keepL_succ {p : Ky → Bool} {l : List Ky} {m : Nat} {x : Ky} (hx : l[m]? = some x) : keepL p (l.take (m + 1)) = keepL p (l.take m) ++ (if p x = true then [] else [x]) := by
  unfold keepL
  rw [List.take_add_one, hx, List.filter_append]
  congr 1
  cases h : p x <;> simp [h]
theorem Half.start {p : Ky → Bool} {l : List Ky} {k : Nat} {x : Ky} (hx : l[k]? = some x) (hp : p x = true) (h : ∀ (j : Nat) (e : Ky), j < k → l[j]? = some e → p e = false) : Half p l (k + 1) k ∧ ∀ (i : Nat) (e : Ky), (keepL p (l.take (k + 1)))[i]? = some e → l[i]? = some e := by
  have e1 : keepL p (l.take k) = l.take k := by
    unfold keepL
    rw [List.filter_eq_self]
    intro e he
    obtain ⟨j, hj⟩ := List.getElem?_of_mem he
    have hjk : j < k := by
      have := (List.getElem?_eq_some_iff.1 hj).1
      rw [List.length_take] at this; omega
    rw [List.getElem?_take_of_lt hjk] at hj
    simp [h j e hjk hj]
  have hk : k < l.length := (List.getElem?_eq_some_iff.1 hx).1
  refine ⟨⟨?_, by omega⟩, fun i e he => ?_⟩
  · rw [keepL_succ hx, e1, if_pos hp, List.append_nil, List.length_take]; omega
  · rw [keepL_succ hx, e1, if_pos hp, List.append_nil] at he
    have hik : i < k := by
      have := (List.getElem?_eq_some_iff.1 he).1
      rw [List.length_take] at this; omega
    rwa [List.getElem?_take_of_lt hik] at he
/-- what the row holds in the second loop -/
def HalfP (p : Ky → Bool) (l : List Ky) (m : Nat) (i : Nat) (e : Ky) : Prop := (keepL p (l.take m))[i]? = some e ∨ (m ≤ i ∧ l[i]? = some e)
theorem keepL_mem {p : Ky → Bool} {l : List Ky} {e : Ky} (h : e ∈ keepL p l) : e ∈ l := (List.mem_filter.1 h).1

theorem idxI_cases (p : Ky → Bool) (l : List Ky) : (idxI p l = -1 ∧ keepL p l = l) ∨ ∃ k x, idxI p l = ((k : Nat) : Int) ∧ l[k]? = some x ∧ p x = true ∧ ∀ (j : Nat) (e : Ky), j < k → l[j]? = some e → p e = false := by
  cases h : l.findIdx? p with
  | none =>
    left
    have := List.findIdx?_eq_none_iff.1 h
    refine ⟨by unfold idxI; rw [h], ?_⟩
    unfold keepL
    rw [List.filter_eq_self]
    intro e he
    simp [this e he]
  | some k =>
    right
    rw [List.findIdx?_eq_some_iff_getElem] at h
    obtain ⟨hk, hp, hj⟩ := h
    have hk' : l[k]? = some l[k] := List.getElem?_eq_getElem hk
    have hall : ∀ (j : Nat) (e : Ky), j < k → l[j]? = some e → p e = false := fun j e hjk he => by
      obtain ⟨hl, rfl⟩ := List.getElem?_eq_some_iff.1 he
      simpa using hj j hjk
    exact ⟨k, l[k], idxI_some hk' hp hall, hk', hp, hall⟩
set_option maxHeartbeats 4000000 in
theorem delete_any (fn : Nat) (lb : Array Value) (eg : ∀ args w, (callFunc fn args).run Tryz.prog w = .ok (.enter fn args) w) (p : Ky → Bool) (g c : Nat) (l : List Ky) (w : World) (hl : l.length ≤ c) (hc : l.length ≤ 1000000)
    (hr : RowP w g c 128 (fun i e => l[i]? = some e)) (hp : Tests fn lb p g l w) :
    Calls Tryz.prog 93 #[.slice (some ⟨g, 0, none⟩) l.length c, .func (.func fn) #[] lb] w fun x w' =>
      x = .returned (.slice (some ⟨g, 0, none⟩) (keepL p l).length c) ∧ RowP w' g c 128 (fun i e => (keepL p l)[i]? = some e) ∧ w.grownBy w' (some g) := by
  have HI := Lib.hid (index_any fn lb eg p g c l w (by omega) hr hp)
  have HR := Lib.hid hr; have HP := Lib.hid hp; clear hr hp
  obtain ⟨n, hn⟩ : ∃ n, n = l.length := ⟨_, rfl⟩
  rw [← hn] at hl hc HI ⊢
  have HN := Lib.hid hn; clear hn
  rcases idxI_cases p l with ⟨e1, e2⟩ | ⟨k0, x0, e1, hx0, hp0, hall⟩
  · rw [e1] at HI
    have HK := Lib.hid e2; clear e1 e2
    go_enter Tryz.func93, Tryz.ntmps93
    go_wp2_with fail
    refine HI.out.mono ?_
    rintro e w1 ⟨rfl, hb⟩
    go_wp2_with fail
    go_ret
    exact ⟨by rw [HK.out, ← HN.out]; rfl, by rw [HK.out]; exact HR.out.below hb, only_of_below hb⟩
  · rw [e1] at HI
    obtain ⟨hs, hs2⟩ := Half.start hx0 hp0 hall
    have HS := Lib.hid hs; have HS2 := Lib.hid hs2
    have HX0 : Hid (k0 < n) := Lib.hid (by rw [HN.out]; exact (List.getElem?_eq_some_iff.1 hx0).1)
    clear e1 hx0 hp0 hall hs hs2
    go_enter Tryz.func93, Tryz.ntmps93
    have hk0 : ((k0 : Int) == -1) = false := beq_eq_false_iff_ne.2 (by omega)
    have hk1 : (k0 : Int) ≤ 1000000 := by have := HX0.out; omega
    have hk2 : (0 : Int) ≤ (k0 : Int) := by omega
    go_wp2_with fail
    refine HI.out.mono ?_
    rintro e w1 ⟨rfl, hb⟩
    have HG := only_of_below (B := g) hb
    have HR1 := Lib.hid ((HR.out.below hb).mono (Q := HalfP p l (k0 + 1)) (fun i e he => by
      rcases he with he | ⟨-, he⟩
      · exact HS2.out i e he
      · exact he))
    clear hb
    go_wp2_with fail
    clear hk0 hk1 hk2
    go_loopw [5, 6, 7] (fun a b _ wr => ∃ k m : Nat, m ≤ n ∧ a = .int .i64 (k : Int) ∧ b = .int .i64 (m : Int) ∧ Half p l m k ∧ RowP wr g c 128 (HalfP p l m) ∧ w.grownBy wr (some g)) (fun _ b _ _ => n - (Go.RowKit.intOf b).toNat)
    case atStart => exact ⟨k0, k0 + 1, by have := HX0.out; omega, rfl, by go_num, HS.out, HR1.out, HG⟩
    case round =>
      clear HG HR1
      obtain ⟨k, m, hm, rfl, rfl, hH, hrow, HG⟩ := hrel
      have HR2 := Lib.hid hrow; have HH := Lib.hid hH; clear hrow hH
      have hkm := HH.out.lt
      have hgl := HR2.out.lt
      by_cases hlt : m < n
      · have k1 : (0 : Int) ≤ (m : Int) := by omega
        have k2 : (m : Int) < (n : Int) := by omega
        obtain ⟨x, hx⟩ : ∃ x, l[m]? = some x := ⟨l[m]'(by rw [← HN.out]; exact hlt), List.getElem?_eq_getElem _⟩
        obtain ⟨c0, c1, c2, c3⟩ := HR2.out.cells m x (.inr ⟨Nat.le_refl _, hx⟩)
        have HX := Lib.hid hx; clear hx
        have HC : Hid (∀ W, w.grownBy W (some g) → Calls Tryz.prog fn (#[enV x] ++ lb) W fun x' W' => x' = .returned (.bool (p x)) ∧ Below W.heap.size W W') := Lib.hid fun W hb => HP.out x (List.mem_of_getElem? HX.out) W hb
        have hA := Lib.hid (alloc_new wr (.cells #[.int .i64 x.f, .int .i64 x.t, .int .i64 x.p, .int .i64 x.i] 128))
        have HGA := only_alloc (o := .cells #[.int .i64 x.f, .int .i64 x.t, .int .i64 x.p, .int .i64 x.i] 128) HG
        have HRA := Lib.hid (HR2.out.alloc (.cells #[.int .i64 x.f, .int .i64 x.t, .int .i64 x.p, .int .i64 x.i] 128))
        have a0 := (cell_of_block (k := 0) hA.out rfl).1; have a1 := (cell_of_block (k := 1) hA.out rfl).1; have a2 := (cell_of_block (k := 2) hA.out rfl).1; have a3 := (cell_of_block (k := 3) hA.out rfl).1
        unfold enV at HC
        cases hq : p x with
        | true =>
          rw [hq] at HC
          have HQ := Lib.hid hq; clear hq
          go_wp2_with (go_at_fn fn; refine (HC.out _ HGA).mono ?_; rintro e w2 ⟨rfl, hb⟩)
          have hne : ((g : Nat) ≠ wr.heap.size) := by omega
          refine ⟨⟨k, m + 1, by omega, rfl, by go_num, ⟨?_, by omega⟩, (HRA.out.below hb).mono fun i e he => ?_, only_call HGA hb⟩, by simp [Go.RowKit.intOf]; omega⟩
          · rw [keepL_succ HX.out, if_pos HQ.out, List.append_nil]; exact HH.out.len
          · unfold HalfP at he ⊢
            rw [keepL_succ HX.out, if_pos HQ.out, List.append_nil] at he
            rcases he with he | ⟨h1, h2⟩
            · exact .inl he
            · exact .inr ⟨by omega, h2⟩
        | false =>
          rw [hq] at HC
          have HQ := Lib.hid hq; clear hq
          go_wp2_with (go_at_fn fn; refine (HC.out _ HGA).mono ?_; rintro e w2 ⟨rfl, hb⟩; have b0 := bcell hb a0; have b1 := bcell hb a1; have b2 := bcell hb a2; have b3 := bcell hb a3; have HR3 := Lib.hid (HRA.out.below hb); have HG3 := only_call HGA hb; obtain ⟨u0, s0⟩ := Option.isSome_iff_exists.1 (HR3.out.any (k * 4) (by omega)).1; obtain ⟨u1, s1⟩ := Option.isSome_iff_exists.1 (HR3.out.any (k * 4 + 1) (by omega)).1; obtain ⟨u2, s2⟩ := Option.isSome_iff_exists.1 (HR3.out.any (k * 4 + 2) (by omega)).1; obtain ⟨u3, s3⟩ := Option.isSome_iff_exists.1 (HR3.out.any (k * 4 + 3) (by omega)).1; have f0 := HR3.out.froz (k * 4); have f1 := HR3.out.froz (k * 4 + 1); have f2 := HR3.out.froz (k * 4 + 2); have f3 := HR3.out.froz (k * 4 + 3); have k3 : (0 : Int) ≤ (k : Int) := (by omega); have k4 : (k : Int) < (n : Int) := (by omega))
          refine ⟨⟨k + 1, m + 1, by omega, by go_num, by go_num, ⟨?_, by omega⟩, HR3.out.set k (by omega) x fun i e he => ?_, only_set (only_set (only_set (only_set HG3 (.inl rfl) _) (.inl rfl) _) (.inl rfl) _) (.inl rfl) _⟩, by simp [Go.RowKit.intOf]; omega⟩
          · rw [keepL_succ HX.out, if_neg (by rw [HQ.out]; decide), List.length_append, HH.out.len]; rfl
          · unfold HalfP at he ⊢
            rw [keepL_succ HX.out, if_neg (by rw [HQ.out]; decide)] at he
            have hl := HH.out.len
            rcases he with he | ⟨h1, h2⟩
            · rcases Nat.lt_trichotomy i k with q | q | q
              · rw [List.getElem?_append_left (by omega)] at he
                exact .inr ⟨by omega, .inl he⟩
              · subst q
                rw [List.getElem?_append_right (by omega), hl, Nat.sub_self] at he
                exact .inl ⟨rfl, (Option.some.inj he).symm⟩
              · rw [List.getElem?_eq_none (by simp; omega)] at he; cases he
            · exact .inr ⟨by omega, .inr ⟨by omega, h2⟩⟩
      · have hmn : m = n := by omega
        have HK : Hid (l.take m = l) := Lib.hid (List.take_of_length_le (by rw [← HN.out]; omega))
        clear hlt
        have HM := Lib.hid hmn
        subst hmn
        have hz : ¬ (m : Int) < (m : Int) := by omega
        have k3 : (0 : Int) ≤ (k : Int) := by omega
        have k4 : (k : Int) ≤ (m : Int) := by omega
        have k5 : (k : Int) ≤ (c : Int) := by omega
        have hcl : ∀ ty, (Builtin.clear_ #[124] ty #[.slice (some ⟨g, k * 4, none⟩) (m - k) (c - k)]).run Tryz.prog wr = .ok (.tuple #[]) (wr.setCells g (k * 4) (Builtin.zeroCells #[.int .i64 0, .int .i64 0, .int .i64 0, .int .i64 0] (m - k)).toList) :=
          fun ty => run_clear_four wr _ _ ty Tryz.underlying124 Tryz.zeroValue128 g (k * 4) (m - k) (c - k) (by omega) (fun j hj => (HR2.out.any (k * 4 + j) (by omega)).1) (fun j hj => HR2.out.froz (k * 4 + j))
        go_wp2_with fail
        go_ret
        have hlen : (keepL p l).length = k := by rw [← HK.out]; exact HH.out.len
        refine ⟨by rw [hlen]; rfl, HR2.out.setCells k _ fun j x hx => ?_, only_setCells _ _ HG⟩
        have hj : j < k := by rw [← hlen]; exact (List.getElem?_eq_some_iff.1 hx).1
        refine ⟨.inl ?_, hj⟩
        rw [HK.out]; exact hx
end Go.Proofs.YtmgjcjacoegocaaGreatDoor.Re

namespace Go.Proofs.YtmgjcjacoegocaaGreatDoor.Re
set_option maxRecDepth 100000
open Go.RowKit Go.Proofs.YtmgjcjacoegocaaGreatDoor.Wire
open Go.Proofs.YtmgjcjacoegocaaGreatDoor.Ip (Pk)

/-- an entry of the table, with the blocks in which it lies -/
structure En where
  k : Ky
  H : Hf
  hb : Nat
  Ab : Option Addr
  cb : Nat
  Ah : Option Addr
  ch : Nat
def En.own (e : En) (k : Nat) : Prop := In3 e.hb e.Ab e.Ah k
def En.ok (W : World) (e : En) : Prop := HalfB W e.hb e.H e.Ab e.cb e.Ah e.ch ∧ Dis e.hb e.Ab e.Ah
def En.ptr (e : En) : Value := .pointer (some ⟨e.hb, 0, none⟩)
/-- the blocks of a table -/
def TOwn (T m : Nat) (O : Option Addr) (L : List En) (k : Nat) : Prop := k = T ∨ k = m ∨ (∃ a, O = some a ∧ a.block = k) ∨ ∃ e ∈ L, e.own k
/-- the list of keys in memory -/
def Ord (W : World) (O : Option Addr) (n c : Nat) (ks : List Ky) : Prop := (O = none ∧ n = 0 ∧ c = 0 ∧ ks = []) ∨ ∃ g, O = some ⟨g, 0, none⟩ ∧ RowP W g c 128 (fun i k => ks[i]? = some k) ∧ n = ks.length ∧ n ≤ c ∧ c ≤ maxLen
structure Tab (W : World) (T m : Nat) (es : Array MapEntry) (clk : Nat) (O : Option Addr) (oc : Nat) (L : List En) : Prop where
  tab : W.heap[T]? = some (.cells #[.map (some m), .slice O L.length oc] 126)
  map : W.heap[m]? = some (.map es clk)
  ents : Ents es (L.map (·.k)) (L.map En.ptr)
  nod : (L.map (·.k)).Nodup
  stamp : (∀ x ∈ es.toList, x.born < clk) ∧ (es.toList.map (·.born)).Nodup
  ord : Ord W O L.length oc (L.map (·.k))
  half : ∀ e ∈ L, e.ok W
  tm : T ≠ m
  og : ∀ a, O = some a → a.block ≠ T ∧ a.block ≠ m
  eo : ∀ e ∈ L, ∀ k, e.own k → k ≠ T ∧ k ≠ m ∧ ∀ a, O = some a → a.block ≠ k
  ee : ∀ (i j : Nat) (e f : En), L[i]? = some e → L[j]? = some f → i ≠ j → ∀ k, e.own k → ¬ f.own k
theorem HalfB.kept {W W' : World} {hb : Nat} {H : Hf} {Ab Ah : Option Addr} {cb ch : Nat} (h : HalfB W hb H Ab cb Ah ch) (hk : ∀ k, In3 hb Ab Ah k → W'.heap[k]? = W.heap[k]?) : HalfB W' hb H Ab cb Ah ch :=
  ⟨(hk hb (.inl rfl)).trans h.1, h.2.1.kept (fun a e => hk _ (.inr (.inl ⟨a, e, rfl⟩))), h.2.2.kept (fun a e => hk _ (.inr (.inr ⟨a, e, rfl⟩)))⟩
theorem HalfB.lt {W : World} {hb : Nat} {H : Hf} {Ab Ah : Option Addr} {cb ch : Nat} (h : HalfB W hb H Ab cb Ah ch) {k : Nat} (hk : In3 hb Ab Ah k) : k < W.heap.size := by
  rcases hk with rfl | ⟨a, rfl, rfl⟩ | ⟨a, rfl, rfl⟩
  · exact blk_lt h.1
  · exact h.2.1.lt.1
  · exact h.2.2.lt.1
theorem Ord.kept {W W' : World} {O : Option Addr} {n c : Nat} {ks : List Ky} (h : Ord W O n c ks) (hk : ∀ a, O = some a → W'.heap[a.block]? = W.heap[a.block]?) : Ord W' O n c ks := by
  rcases h with h | ⟨g, rfl, ⟨cur, h1, h2⟩, h3⟩
  · exact .inl h
  · exact .inr ⟨g, rfl, ⟨cur, (hk _ rfl).trans h1, h2⟩, h3⟩
theorem Ord.lt {W : World} {O : Option Addr} {n c : Nat} {ks : List Ky} (h : Ord W O n c ks) {a : Addr} (e : O = some a) : a.block < W.heap.size := by
  rcases h with h | ⟨g, rfl, hr, -⟩
  · rw [h.1] at e; cases e
  · cases e; exact hr.lt
section
variable {W W' : World} {T m : Nat} {es : Array MapEntry} {clk : Nat} {O : Option Addr} {oc : Nat} {L : List En}
theorem Tab.kept (h : Tab W T m es clk O oc L) (hk : ∀ k, TOwn T m O L k → W'.heap[k]? = W.heap[k]?) : Tab W' T m es clk O oc L :=
  ⟨(hk T (.inl rfl)).trans h.tab, (hk m (.inr (.inl rfl))).trans h.map, h.ents, h.nod, h.stamp, h.ord.kept (fun a e => hk _ (.inr (.inr (.inl ⟨a, e, rfl⟩)))),
    fun e he => ⟨(h.half e he).1.kept (fun k q => hk k (.inr (.inr (.inr ⟨e, he, q⟩)))), (h.half e he).2⟩, h.tm, h.og, h.eo, h.ee⟩
theorem Tab.lt (h : Tab W T m es clk O oc L) {k : Nat} (hk : TOwn T m O L k) : k < W.heap.size := by
  rcases hk with rfl | rfl | ⟨a, e, rfl⟩ | ⟨e, he, q⟩
  · exact blk_lt h.tab
  · exact blk_lt h.map
  · exact h.ord.lt e
  · exact (h.half e he).1.lt q
theorem Tab.below (h : Tab W T m es clk O oc L) (hb : Below W.heap.size W W') : Tab W' T m es clk O oc L := h.kept (fun k q => hb.block k (h.lt q))
theorem Tab.chg {S : Nat → Prop} (h : Tab W T m es clk O oc L) (hc : Chg S W W') (hs : ∀ k, TOwn T m O L k → ¬ S k) : Tab W' T m es clk O oc L := h.kept (fun k q => hc.block k (h.lt q) (hs k q))
/-- the half of an entry is changed -/
theorem Tab.setHalf {S : Nat → Prop} (h : Tab W T m es clk O oc L) {i : Nat} {e e' : En} (hi : L[i]? = some e) (hk : e'.k = e.k) (hb : e'.hb = e.hb) (hs : HSt S W W' e'.hb e'.H e'.Ab e'.cb e'.Ah e'.ch) (hS : ∀ k, S k → e.own k) :
    Tab W' T m es clk O oc (L.set i e') ∧ (∀ k, TOwn T m O (L.set i e') k → TOwn T m O L k ∨ W.heap.size ≤ k) ∧ Chg (TOwn T m O L) W W' := by
  have hmem : e ∈ L := List.mem_of_getElem? hi
  have hil : i < L.length := (List.getElem?_eq_some_iff.1 hi).1
  have hown : ∀ k, e'.own k → e.own k ∨ W.heap.size ≤ k := fun k q => (hs.own k q).imp (hS k) id
  have keep : ∀ k, k < W.heap.size → ¬ e.own k → W'.heap[k]? = W.heap[k]? := fun k hl hn => hs.chg.block k hl (fun q => hn (hS k q))
  have hT := h.eo e hmem
  have hkeys : (L.set i e').map (·.k) = L.map (·.k) := by
    rw [List.map_set, hk]
    obtain ⟨hl, rfl⟩ := List.getElem?_eq_some_iff.1 hi
    have : (L.map (·.k))[i]'(by simpa using hl) = L[i].k := by simp
    rw [← this]; exact List.set_getElem_self _
  have hptr : (L.set i e').map En.ptr = L.map En.ptr := by
    rw [List.map_set]
    obtain ⟨hl, rfl⟩ := List.getElem?_eq_some_iff.1 hi
    have e1 : e'.ptr = L[i].ptr := by unfold En.ptr; rw [hb]
    rw [e1]
    have : (L.map En.ptr)[i]'(by simpa using hl) = L[i].ptr := by simp
    rw [← this]; exact List.set_getElem_self _
  have hmem' : ∀ f, f ∈ L.set i e' → f = e' ∨ ∃ j, j ≠ i ∧ L[j]? = some f := fun f hf => by
    obtain ⟨j, hj⟩ := List.getElem?_of_mem hf
    rw [List.getElem?_set] at hj
    by_cases hij : i = j
    · rw [if_pos hij] at hj
      split at hj
      · exact .inl (Option.some.inj hj).symm
      · omega
    · rw [if_neg hij] at hj
      exact .inr ⟨j, fun q => hij q.symm, hj⟩
  refine ⟨⟨?_, ?_, by rw [hkeys, hptr]; exact h.ents, by rw [hkeys]; exact h.nod, h.stamp, ?_, ?_, h.tm, h.og, ?_, ?_⟩, ?_, ?_⟩
  · rw [List.length_set, keep T (h.lt (.inl rfl)) (fun q => (hT T q).1 rfl)]; exact h.tab
  · rw [keep m (h.lt (.inr (.inl rfl))) (fun q => (hT m q).2.1 rfl)]; exact h.map
  · rw [List.length_set, hkeys]
    exact h.ord.kept (fun a q => keep _ (h.ord.lt q) (fun q2 => (hT _ q2).2.2 a q rfl))
  · intro f hf
    rcases hmem' f hf with rfl | ⟨j, hj, hfj⟩
    · exact ⟨hs.half, hs.dis⟩
    · have hok := h.half f (List.mem_of_getElem? hfj)
      exact ⟨hok.1.kept (fun k q => keep k (hok.1.lt q) (h.ee j i f e hfj hi hj k q)), hok.2⟩
  · intro f hf k q
    rcases hmem' f hf with rfl | ⟨j, hj, hfj⟩
    · rcases hown k q with q' | q'
      · exact hT k q'
      · have h1 := h.lt (.inl rfl : TOwn T m O L T); have h2 := h.lt (.inr (.inl rfl) : TOwn T m O L m)
        exact ⟨by omega, by omega, fun a ea => by have := h.ord.lt ea; omega⟩
    · exact h.eo f (List.mem_of_getElem? hfj) k q
  · intro a b f g hf hg hab k qf qg
    have hlow : ∀ (j : Nat) (x : En), L[j]? = some x → x.own k → k < W.heap.size := fun j x hx q => (h.half x (List.mem_of_getElem? hx)).1.lt q
    rw [List.getElem?_set] at hf hg
    by_cases h1 : i = a
    · rw [if_pos h1] at hf
      rw [if_neg (by omega)] at hg
      split at hf
      · obtain rfl := Option.some.inj hf
        rcases hown k qf with q' | q'
        · exact h.ee i b e g hi hg (by omega) k q' qg
        · have := hlow b g hg qg; omega
      · omega
    · rw [if_neg h1] at hf
      by_cases h2 : i = b
      · rw [if_pos h2] at hg
        split at hg
        · obtain rfl := Option.some.inj hg
          rcases hown k qg with q' | q'
          · exact h.ee a i f e hf hi (by omega) k qf q'
          · have := hlow a f hf qf; omega
        · omega
      · rw [if_neg h2] at hg
        exact h.ee a b f g hf hg hab k qf qg
  · rintro k (q | q | q | ⟨f, hf, q⟩)
    · exact .inl (.inl q)
    · exact .inl (.inr (.inl q))
    · exact .inl (.inr (.inr (.inl q)))
    · rcases hmem' f hf with rfl | ⟨j, hj, hfj⟩
      · exact (hown k q).imp (fun q' => .inr (.inr (.inr ⟨e, hmem, q'⟩))) id
      · exact .inl (.inr (.inr (.inr ⟨f, List.mem_of_getElem? hfj, q⟩)))
  · exact hs.chg.mono (fun k q => .inr (.inr (.inr ⟨e, hmem, hS k q⟩)))
end
end Go.Proofs.YtmgjcjacoegocaaGreatDoor.Re

namespace Go.Proofs.YtmgjcjacoegocaaGreatDoor.Re
set_option maxRecDepth 100000
open Go.RowKit Go.Proofs.YtmgjcjacoegocaaGreatDoor.Wire
open Go.Proofs.YtmgjcjacoegocaaGreatDoor.Ip (Pk)

theorem key_tests (b g : Nat) (k : Ky) (l : List Ky) (w : World) (hb : w.heap[b]? = some (.cells #[.int .i64 k.f, .int .i64 k.t, .int .i64 k.p, .int .i64 k.i] 128 (0, 0))) (hne : b ≠ g) :
    Tests 94 #[.pointer (some ⟨b, 0, none⟩)] (fun e => decide (e = k)) g l w := by
  intro e he W hW
  obtain ⟨⟨c0, c1, c2, c3⟩, -⟩ := cells4 (bblock_only hW hb hne)
  have hq := eqKy e k
  clear he hb hW
  show Calls _ _ #[enV e, .pointer (some ⟨b, 0, none⟩)] _ _
  unfold enV
  generalize hd : decide (e = k) = d at hq
  have HD := Lib.hid hd; clear hd
  have HB := (Below.refl W.heap.size W).alloc (Nat.le_refl _) (.cells #[.int .i64 e.f, .int .i64 e.t, .int .i64 e.p, .int .i64 e.i] 128)
  have c0' := cell_alloc' (.cells #[.int .i64 e.f, .int .i64 e.t, .int .i64 e.p, .int .i64 e.i] 128) c0
  have c1' := cell_alloc' (.cells #[.int .i64 e.f, .int .i64 e.t, .int .i64 e.p, .int .i64 e.i] 128) c1
  have c2' := cell_alloc' (.cells #[.int .i64 e.f, .int .i64 e.t, .int .i64 e.p, .int .i64 e.i] 128) c2
  have c3' := cell_alloc' (.cells #[.int .i64 e.f, .int .i64 e.t, .int .i64 e.p, .int .i64 e.i] 128) c3
  go_enter Tryz.func94, Tryz.ntmps94
  go_wp2_with fail
  go_ret
  refine ⟨?_, HB⟩
  show Ending.returned _ = .returned (.bool (decide (e = k)))
  rw [HD.out]; rfl
theorem keep_erase : ∀ (ks : List Ky) (j : Nat) (k : Ky), ks.Nodup → ks[j]? = some k → keepL (fun e => decide (e = k)) ks = ks.eraseIdx j
  | [], j, k, _, h => by simp at h
  | x :: ks, 0, k, hn, h => by
    simp at h; subst h
    unfold keepL
    rw [List.filter_cons_of_neg (by simp)]
    rw [List.filter_eq_self.2]
    · rfl
    · intro e he
      have : e ≠ x := fun q => (List.nodup_cons.1 hn).1 (q ▸ he)
      simp [this]
  | x :: ks, j + 1, k, hn, h => by
    have hx : x ≠ k := fun q => (List.nodup_cons.1 hn).1 (q ▸ List.mem_of_getElem? (by simpa using h))
    have ih := keep_erase ks j k (List.nodup_cons.1 hn).2 (by simpa using h)
    unfold keepL at ih ⊢
    rw [List.filter_cons_of_pos (by simp [hx]), ih]; rfl
def S3 (T m : Nat) (O : Option Addr) (k : Nat) : Prop := k = T ∨ k = m ∨ ∃ a, O = some a ∧ a.block = k
theorem erase_get {α : Type} (L : List α) (j a : Nat) : (L.eraseIdx j)[a]? = if a < j then L[a]? else L[a + 1]? := by
  rw [List.getElem?_eraseIdx]
/-- an entry is struck out -/
theorem tab_erase {w w4 : World} {T m g oc clk : Nat} {es : Array MapEntry} {L : List En} {j : Nat} (h : Tab w T m es clk (some ⟨g, 0, none⟩) oc L)
    (hc5 : Chg (S3 T m (some ⟨g, 0, none⟩)) w (w4.setCell ⟨T, 1, none⟩ (.slice (some ⟨g, 0, none⟩) (L.eraseIdx j).length oc)))
    (hT : w4.heap[T]? = some (.cells #[.map (some m), .slice (some ⟨g, 0, none⟩) L.length oc] 126)) (hM : w4.heap[m]? = some (.map (es.eraseIdxIfInBounds j) clk))
    (hR : RowP w4 g oc 128 (fun i k => ((L.eraseIdx j).map (·.k))[i]? = some k)) (hlc : L.length ≤ oc) (hoc : oc ≤ maxLen) :
    Tab (w4.setCell ⟨T, 1, none⟩ (.slice (some ⟨g, 0, none⟩) (L.eraseIdx j).length oc)) T m (es.eraseIdxIfInBounds j) clk (some ⟨g, 0, none⟩) oc (L.eraseIdx j) := by
  have hgT := (h.og _ rfl).1
  have hsub : (L.eraseIdx j).Sublist L := List.eraseIdx_sublist L j
  have hes : (es.eraseIdxIfInBounds j).toList = es.toList.eraseIdx j := by simp
  refine ⟨?_, ?_, ?_, ?_, ?_, ?_, ?_, h.tm, h.og, ?_, ?_⟩
  · rw [block_setCell (k := 1) (v := .slice (some ⟨g, 0, none⟩) (L.eraseIdx j).length oc) hT]; simp
  · exact block_set_other hM (by exact h.tm)
  · rw [map_erase, map_erase]; exact h.ents.erase j
  · rw [map_erase]; exact h.nod.sublist (List.eraseIdx_sublist _ _)
  · rw [hes]
    refine ⟨fun x hx => h.stamp.1 x ((List.eraseIdx_sublist _ _).subset hx), ?_⟩
    rw [map_erase]
    exact h.stamp.2.sublist (List.eraseIdx_sublist _ _)
  · refine .inr ⟨g, rfl, hR.setOther (by exact fun q => hgT q.symm) _, by simp, ?_, hoc⟩
    have := hsub.length_le; omega
  · intro e he
    have hok := h.half e (hsub.subset he)
    refine ⟨hok.1.kept (fun k q => hc5.block k (hok.1.lt q) ?_), hok.2⟩
    have := h.eo e (hsub.subset he) k q
    rintro (q1 | q1 | ⟨a, q1, q2⟩)
    · exact this.1 q1
    · exact this.2.1 q1
    · exact this.2.2 a q1 q2
  · exact fun e he k q => h.eo e (hsub.subset he) k q
  · intro a b e f ha hb hab k q
    rw [erase_get] at ha hb
    refine h.ee (if a < j then a else a + 1) (if b < j then b else b + 1) e f ?_ ?_ ?_ k q
    · split <;> simp_all
    · split <;> simp_all
    · split <;> split <;> omega
def RemPost (w : World) (T m : Nat) (clk : Nat) (O : Option Addr) (oc : Nat) (L : List En) (x : Ending) (w' : World) : Prop := x = .returned (.tuple #[]) ∧ ∃ es, Tab w' T m es clk O oc L ∧ Chg (S3 T m O) w w'
set_option maxHeartbeats 4000000 in
theorem remove_any (T m : Nat) (es : Array MapEntry) (clk : Nat) (O : Option Addr) (oc : Nat) (L : List En) (j : Nat) (e : En) (hj : L[j]? = some e) (w : World) (h : Tab w T m es clk O oc L) (hL : L.length ≤ 1000) :
    Calls Tryz.prog 51 #[.pointer (some ⟨T, 0, none⟩), .agg #[.int .i64 e.k.f, .int .i64 e.k.t, .int .i64 e.k.p, .int .i64 e.k.i]] w (RemPost w T m clk O oc (L.eraseIdx j)) := by
  have hkj : (L.map (·.k))[j]? = some e.k := by simp [hj]
  obtain ⟨g, rfl, hrow, hln, hlc, hoc⟩ : ∃ g, O = some ⟨g, 0, none⟩ ∧ RowP w g oc 128 (fun i k => (L.map (·.k))[i]? = some k) ∧ L.length = (L.map (·.k)).length ∧ L.length ≤ oc ∧ oc ≤ maxLen := by
    rcases h.ord with ⟨-, q, -⟩ | q
    · have := (List.getElem?_eq_some_iff.1 hj).1; omega
    · exact q
  have hgT := (h.og _ rfl).1; have hgm := (h.og _ rfl).2
  have HX := Lib.hid h; have HJ := Lib.hid hj; have HKJ := Lib.hid hkj
  have hTl := h.lt (.inl rfl : TOwn T m (some ⟨g, 0, none⟩) L T); have hml := h.lt (.inr (.inl rfl) : TOwn T m (some ⟨g, 0, none⟩) L m); have hgl := hrow.lt
  have htm := h.tm
  obtain ⟨o1, ho1⟩ : ∃ o : Obj, o = .cells #[.int .i64 e.k.f, .int .i64 e.k.t, .int .i64 e.k.p, .int .i64 e.k.i] 128 := ⟨_, rfl⟩
  have HT1 := Lib.hid (block_alloc h.tab o1)
  have HM1 := Lib.hid (block_alloc h.map o1)
  have HR1 := Lib.hid (hrow.alloc o1)
  have HK1 := Lib.hid (alloc_new w o1)
  rw [ho1] at HT1 HM1 HR1 HK1
  clear ho1 hkj hj hln h hrow
  go_enter Tryz.func51, Tryz.ntmps51
  go_upto_region 1 with fail
  have HC1 : Hid (Chg (S3 T m (some ⟨g, 0, none⟩)) w (w.alloc (.cells #[.int .i64 e.k.f, .int .i64 e.k.t, .int .i64 e.k.p, .int .i64 e.k.i] 128))) := Lib.hid ((Chg.refl _ _).alloc _)
  generalize w.alloc (.cells #[.int .i64 e.k.f, .int .i64 e.k.t, .int .i64 e.k.p, .int .i64 e.k.i] 128) = w1 at *
  have qt0 := (cell_of_block (k := 0) HT1.out rfl).1
  have qk0 := (cell_of_block (k := 0) HK1.out rfl).1; have qk1 := (cell_of_block (k := 1) HK1.out rfl).1; have qk2 := (cell_of_block (k := 2) HK1.out rfl).1; have qk3 := (cell_of_block (k := 3) HK1.out rfl).1
  go_still_tail 5, (by kernel_rfl)
  change wpList _ _ _ _ _ w1.drew
  have hdel := fun ty => run_delete_ky (W := w1.drew) e.k ty HM1.out HX.out.ents HX.out.nod HKJ.out
  unfold tyM Ky.val at hdel
  clear qt0 qk0 qk1 qk2 qk3
  obtain ⟨W3, hW3⟩ : ∃ W3 : World, W3 = { w1.drew with heap := w1.drew.heap.setIfInBounds m (.map (es.eraseIdxIfInBounds j) clk) } := ⟨_, rfl⟩
  rw [← hW3] at hdel
  have HT3 : Hid (W3.heap[T]? = some (.cells #[.map (some m), .slice (some ⟨g, 0, none⟩) L.length oc] 126)) := Lib.hid (by rw [hW3]; exact block_setObj (W := w1.drew) HT1.out htm)
  have HM3 : Hid (W3.heap[m]? = some (.map (es.eraseIdxIfInBounds j) clk)) := Lib.hid (by rw [hW3]; exact block_setObj_same (W := w1.drew) HM1.out)
  have HK3 : Hid (W3.heap[w.heap.size]? = some (.cells #[.int .i64 e.k.f, .int .i64 e.k.t, .int .i64 e.k.p, .int .i64 e.k.i] 128)) := Lib.hid (by rw [hW3]; exact block_setObj (W := w1.drew) HK1.out (by omega))
  have HR3 : Hid (RowP W3 g oc 128 (fun i k => (L.map (·.k))[i]? = some k)) := Lib.hid (by
    obtain ⟨cur, h1, h2⟩ := HR1.out
    exact ⟨cur, by rw [hW3]; exact block_setObj (W := w1.drew) h1 hgm, h2⟩)
  have HC3 : Hid (Chg (S3 T m (some ⟨g, 0, none⟩)) w W3) := Lib.hid (by
    rw [hW3]
    have hc := HC1.out.drew
    exact ⟨hc.os, hc.tape, hc.output, by simpa using hc.size, fun k hk hn => by
      have hkm : k ≠ m := fun q => hn (.inr (.inl q))
      show (w1.drew.heap.setIfInBounds m _)[k]? = _
      rw [Array.getElem?_setIfInBounds_ne (fun q => hkm q.symm)]
      exact hc.block k hk hn⟩)
  clear hW3 HT1 HM1 HK1 HR1 HC1
  have qt0 := (cell_of_block (k := 1) HT3.out rfl).1
  have HD : Hid (Calls Tryz.prog 93 #[.slice (some ⟨g, 0, none⟩) L.length oc, .func (.func 94) #[] #[.pointer (some ⟨w.heap.size, 0, none⟩)]] W3 fun x w' =>
      x = .returned (.slice (some ⟨g, 0, none⟩) (L.eraseIdx j).length oc) ∧ RowP w' g oc 128 (fun i k => ((L.eraseIdx j).map (·.k))[i]? = some k) ∧ W3.grownBy w' (some g)) := Lib.hid (by
    have hd := delete_any 94 #[.pointer (some ⟨w.heap.size, 0, none⟩)] (enters_of Tryz.func94 (by kernel_rfl) rfl) (fun x => decide (x = e.k)) g oc (L.map (·.k)) W3 (by simpa using hlc) (by simp; omega) HR3.out (key_tests w.heap.size g e.k _ W3 HK3.out (by omega))
    rw [keep_erase _ j e.k HX.out.nod HKJ.out, ← map_erase] at hd
    simp only [List.length_map] at hd
    exact hd)
  go_wp2_with (go_at_call 93; refine HD.out.mono ?_; rintro x w4 ⟨rfl, hr4, hg4⟩; have HR4 := Lib.hid hr4; have HG4 := Lib.hid hg4; have HT4 := Lib.hid (bblock_only hg4 HT3.out (fun q => hgT q.symm)); have qt4 := (cell_of_block (k := 1) HT4.out rfl).1; have zt4 := (cell_of_block (k := 1) HT4.out rfl).2; clear hr4 hg4)
  go_end0
  have hc5 : Chg (S3 T m (some ⟨g, 0, none⟩)) w (w4.setCell ⟨T, 1, none⟩ (.slice (some ⟨g, 0, none⟩) (L.eraseIdx j).length oc)) := (HC3.out.grown HG4.out (fun k q => by cases q; exact .inl (.inr (.inr ⟨_, rfl, rfl⟩)))).set (.inl (.inl rfl)) _
  exact ⟨rfl, _, tab_erase HX.out hc5 HT4.out ((HG4.out.block m (blk_lt HM3.out) (fun q => hgm (by cases q; rfl))).trans HM3.out) HR4.out hlc hoc, hc5⟩
end Go.Proofs.YtmgjcjacoegocaaGreatDoor.Re

namespace Go.Proofs.YtmgjcjacoegocaaGreatDoor.Re
set_option maxRecDepth 100000
open Go.RowKit Go.Proofs.YtmgjcjacoegocaaGreatDoor.Wire
open Go.Proofs.YtmgjcjacoegocaaGreatDoor.Ip (Pk)

theorem look_some {W : World} {T m : Nat} {es : Array MapEntry} {clk : Nat} {O : Option Addr} {oc : Nat} {L : List En} (h : Tab W T m es clk O oc L) {i : Nat} {e : En} (hi : L[i]? = some e) (c : Bool) :
    (Instr.lookup 123 (.map (some m)) (.agg #[.int .i64 e.k.f, .int .i64 e.k.t, .int .i64 e.k.p, .int .i64 e.k.i]) c).run Tryz.prog W = .ok (if c then .tuple #[e.ptr, .bool true] else e.ptr) W := by
  have := run_lookup_ky e.k c h.map h.ents
  unfold tyM Ky.val at this
  rw [this]
  have hk : (L.map (·.k))[i]? = some e.k := by simp [hi]
  rw [at_some h.nod hk]
  simp [hi]
theorem look_none {W : World} {T m : Nat} {es : Array MapEntry} {clk : Nat} {O : Option Addr} {oc : Nat} {L : List En} (h : Tab W T m es clk O oc L) (k : Ky) (hk : k ∉ L.map (·.k)) (c : Bool) :
    (Instr.lookup 123 (.map (some m)) (.agg #[.int .i64 k.f, .int .i64 k.t, .int .i64 k.p, .int .i64 k.i]) c).run Tryz.prog W = .ok (if c then .tuple #[.pointer none, .bool false] else .pointer none) W := by
  have := run_lookup_ky k c h.map h.ents
  unfold tyM Ky.val at this
  rw [this, at_none hk]
  simp
set_option maxHeartbeats 4000000 in
theorem find_there (T m : Nat) (es : Array MapEntry) (clk : Nat) (O : Option Addr) (oc : Nat) (L : List En) (i : Nat) (e : En) (hi : L[i]? = some e) (now : Int) (w : World) (h : Tab w T m es clk O oc L) :
    Calls Tryz.prog 46 #[.pointer (some ⟨T, 0, none⟩), .agg #[.int .i64 e.k.f, .int .i64 e.k.t, .int .i64 e.k.p, .int .i64 e.k.i], .int .i64 now] w fun x w' => x = .returned (.pointer (some ⟨e.hb, 0, none⟩)) ∧ Below w.heap.size w w' := by
  have HT0 := Lib.hid h
  have HB := below_alloc (o := .cells #[.int .i64 e.k.f, .int .i64 e.k.t, .int .i64 e.k.p, .int .i64 e.k.i] 128) (below_alloc (o := .cells #[.pointer (some ⟨T, 0, none⟩)] 49) (Below.refl w.heap.size w))
  have hp := block_alloc (alloc_new w (.cells #[.pointer (some ⟨T, 0, none⟩)] 49)) (.cells #[.int .i64 e.k.f, .int .i64 e.k.t, .int .i64 e.k.p, .int .i64 e.k.i] 128)
  have hk := alloc_new' (w.alloc (.cells #[.pointer (some ⟨T, 0, none⟩)] 49)) (.cells #[.int .i64 e.k.f, .int .i64 e.k.t, .int .i64 e.k.p, .int .i64 e.k.i] 128) (w.heap.size + 1) (by simp)
  go_enter Tryz.func46, Tryz.ntmps46
  go_upto_region 1 with fail
  generalize (w.alloc (.cells #[.pointer (some ⟨T, 0, none⟩)] 49)).alloc (.cells #[.int .i64 e.k.f, .int .i64 e.k.t, .int .i64 e.k.p, .int .i64 e.k.i] 128) = w1 at *
  have HT1 := Lib.hid (HT0.out.below HB)
  have hlk := look_some (W := w1.drew) (HT1.out.kept (fun _ _ => rfl)) hi true
  unfold En.ptr at hlk
  have qt := (cell_of_block (k := 0) HT1.out.tab rfl).1
  have qp := (cell_of_box hp).1
  have qk0 := (cell_of_block (k := 0) hk rfl).1; have qk1 := (cell_of_block (k := 1) hk rfl).1; have qk2 := (cell_of_block (k := 2) hk rfl).1; have qk3 := (cell_of_block (k := 3) hk rfl).1
  have HBx := Lib.hid HB
  clear hp hk HT0 hi HB
  go_region
  go_wp2_with fail
  go_ret
  exact ⟨rfl, HBx.out.drew⟩
theorem mapEq (m : Nat) (w : World) : (binOp .eql 123 (.map (some m)) (.map none)).run Tryz.prog w = .ok (.bool false) w := by kernel_rfl
theorem infoKy : (Tryz.prog.info? 128).map (fun i => (i.zero, i.size, i.bytes)) = some (some (.agg #[.int .i64 0, .int .i64 0, .int .i64 0, .int .i64 0]), 4, 32) := by kernel_rfl
theorem enCells_at (ks : List Ky) (i r : Nat) (e : Ky) (hi : ks[i]? = some e) (hr : r < 4) : (enCells ks)[i * 4 + r]? = ([.int .i64 e.f, .int .i64 e.t, .int .i64 e.p, .int .i64 e.i] : List Value)[r]? := by
  obtain ⟨h0, h1, h2, h3⟩ := enCells_get ks i e hi
  match r, hr with
  | 0, _ => exact h0
  | 1, _ => exact h1
  | 2, _ => exact h2
  | 3, _ => exact h3
theorem ord_owns {W : World} {O : Option Addr} {n c : Nat} {ks : List Ky} (h : Ord W O n c ks) : W.ownsRow 0 128 4 (.slice O n c) n (enCells ks) := by
  rcases h with ⟨rfl, rfl, rfl, rfl⟩ | ⟨g, rfl, ⟨cur, h1, h2, h3⟩, rfl, h4, h5⟩
  · exact ⟨rfl, .inl ⟨rfl, rfl⟩⟩
  · refine ⟨enCells_length ks, .inr ⟨g, c, cur, rfl, Nat.zero_le _, h1, h4, h5, h2, ?_⟩⟩
    apply List.ext_getElem?
    intro q
    by_cases hq : q < ks.length * 4
    · rw [List.getElem?_take_of_lt hq]
      have hi : q / 4 < ks.length := by omega
      have hr : q % 4 < 4 := Nat.mod_lt _ (by omega)
      have e : q = q / 4 * 4 + q % 4 := by omega
      have hk : ks[q / 4]? = some ks[q / 4] := List.getElem?_eq_getElem hi
      obtain ⟨-, a0, a1, a2, a3⟩ := h3 (q / 4) _ hk
      have hc := enCells_at ks (q / 4) (q % 4) _ hk hr
      rw [← e] at hc
      rw [hc, Array.getElem?_toList]
      generalize hqi : q / 4 = i at *
      generalize hqr : q % 4 = r at *
      rw [e]
      match r, hr with
      | 0, _ => exact a0
      | 1, _ => exact a1
      | 2, _ => exact a2
      | 3, _ => exact a3
    · rw [List.getElem?_eq_none (by rw [List.length_take]; omega), List.getElem?_eq_none (by rw [enCells_length]; omega)]
theorem ord_of_owns {W : World} {g n c : Nat} {ks : List Ky} (h : W.ownsRow 0 128 4 (.slice (some ⟨g, 0, none⟩) n c) n (enCells ks)) (hn : n = ks.length) : Ord W (some ⟨g, 0, none⟩) n c ks := by
  rcases h.2 with ⟨e, -⟩ | ⟨g', c', cur, e, -, h1, h2, h3, h4, h5⟩
  · cases e
  · cases e
    refine .inr ⟨g, rfl, ⟨cur, h1, h4, fun i e hi => ?_⟩, hn, h2, h3⟩
    have hl := (List.getElem?_eq_some_iff.1 hi).1
    obtain ⟨q0, q1, q2, q3⟩ := enCells_get ks i e hi
    rw [← h5] at q0 q1 q2 q3
    rw [List.getElem?_take_of_lt (by omega), Array.getElem?_toList] at q0 q1 q2 q3
    exact ⟨by omega, q0, q1, q2, q3⟩
/-- a new datagram -/
def newF (now : Int) : Hf := { start := now, rej := false, by_ := [], hv := [], cnt := 0, ended := false, en := 0, started := false, first := pk0 }
/-- the entry of a new datagram -/
def newE (k : Ky) (now : Int) (hb : Nat) : En := { k := k, H := newF now, hb := hb, Ab := none, cb := 0, Ah := none, ch := 0 }
theorem newE_own {k : Ky} {now : Int} {hb i : Nat} (h : (newE k now hb).own i) : i = hb := by
  rcases h with h | ⟨a, e, -⟩ | ⟨a, e, -⟩
  · exact h
  · cases e
  · cases e
theorem tab_push {w x5 : World} {T m clk oc g cap hb : Nat} {es : Array MapEntry} {O : Option Addr} {L : List En} {k : Ky} {now : Int} (h : Tab w T m es clk O oc L) (hk : k ∉ L.map (·.k))
    (hT : x5.heap[T]? = some (.cells #[.map (some m), .slice O L.length oc] 126)) (hM : x5.heap[m]? = some (.map (es.push { key := .agg #[.int .i64 k.f, .int .i64 k.t, .int .i64 k.p, .int .i64 k.i], val := .pointer (some ⟨hb, 0, none⟩), born := clk }) (clk + 1)))
    (hH : x5.heap[hb]? = some (.cells #[.int .i64 now, .bool false, .slice none 0 0, .slice none 0 0, .int .i64 0, .bool false, .int .i64 0, .bool false, .int .i64 0, .int .i64 0, .int .i64 0, .int .i64 0, .int .i64 0, .bool false, .bool false, .int .i64 0, .string ⟨#[]⟩] 133)) (ho : x5.ownsRow 0 128 4 (.slice (some ⟨g, 0, none⟩) (L.length + 1) cap) (L.length + 1) (enCells (L.map (·.k)) ++ [.int .i64 k.f, .int .i64 k.t, .int .i64 k.p, .int .i64 k.i]))
    (hc : Chg (S3 T m O) w (x5.setCell ⟨T, 1, none⟩ (.slice (some ⟨g, 0, none⟩) (L.length + 1) cap))) (hat : O.map (·.block) = some g ∨ w.heap.size ≤ g) (hb1 : w.heap.size ≤ hb) (hbg : hb ≠ g) :
    Tab (x5.setCell ⟨T, 1, none⟩ (.slice (some ⟨g, 0, none⟩) (L.length + 1) cap)) T m (es.push { key := .agg #[.int .i64 k.f, .int .i64 k.t, .int .i64 k.p, .int .i64 k.i], val := .pointer (some ⟨hb, 0, none⟩), born := clk }) (clk + 1) (some ⟨g, 0, none⟩) cap (L ++ [newE k now hb]) := by
  have hTl := h.lt (.inl rfl : TOwn T m O L T); have hml := h.lt (.inr (.inl rfl) : TOwn T m O L m)
  have hgO : ∀ P : Nat → Prop, (∀ a, O = some a → P a.block) → (w.heap.size ≤ g → P g) → P g := fun P h1 h2 => by
    rcases hat with q | q
    · cases O with
      | none => cases q
      | some a => have e : a.block = g := by simpa using q
                  exact e ▸ h1 a rfl
    · exact h2 q
  have hgT : g ≠ T := hgO (· ≠ T) (fun a e => (h.og a e).1) (fun q => by omega)
  have hgm : g ≠ m := hgO (· ≠ m) (fun a e => (h.og a e).2) (fun q => by omega)
  have hmem : ∀ f, f ∈ L ++ [newE k now hb] → f ∈ L ∨ f = newE k now hb := fun f hf => by
    rcases List.mem_append.1 hf with q | q
    · exact .inl q
    · exact .inr (by simpa using q)
  have hlow : ∀ f ∈ L, ∀ i, f.own i → i < w.heap.size := fun f hf i q => (h.half f hf).1.lt q
  refine ⟨?_, ?_, ?_, ?_, ?_, ?_, ?_, h.tm, fun a e => by cases e; exact ⟨hgT, hgm⟩, ?_, ?_⟩
  · rw [block_setCell (k := 1) (v := .slice (some ⟨g, 0, none⟩) (L.length + 1) cap) hT]; simp
  · exact block_set_other hM (by exact h.tm)
  · have := h.ents.push k (.pointer (some ⟨hb, 0, none⟩)) clk
    rw [List.map_append, List.map_append]; exact this
  · rw [List.map_append]
    show (L.map (·.k) ++ [k]).Nodup
    rw [List.nodup_append]
    exact ⟨h.nod, by simp, fun a ha b hb2 => by simp at hb2; subst hb2; exact fun q => hk (q ▸ ha)⟩
  · refine ⟨fun x hx => ?_, ?_⟩
    · rw [Array.toList_push, List.mem_append] at hx
      rcases hx with hx | hx
      · have := h.stamp.1 x hx; omega
      · simp at hx; subst hx; simp
    · rw [Array.toList_push, List.map_append, List.nodup_append]
      refine ⟨h.stamp.2, by simp, fun a ha b hb2 => ?_⟩
      obtain ⟨x, hx, rfl⟩ := List.mem_map.1 ha
      have := h.stamp.1 x hx
      simp at hb2; subst hb2; omega
  · have ho' : x5.ownsRow 0 128 4 (.slice (some ⟨g, 0, none⟩) (L.length + 1) cap) (L.length + 1) (enCells ((L ++ [newE k now hb]).map (·.k))) := by
      rw [List.map_append]
      have : enCells (L.map (·.k) ++ [k]) = enCells (L.map (·.k)) ++ [.int .i64 k.f, .int .i64 k.t, .int .i64 k.p, .int .i64 k.i] := by unfold enCells; rw [List.flatMap_append]; rfl
      show World.ownsRow _ _ _ _ _ _ (enCells (L.map (·.k) ++ [k]))
      rw [this]; exact ho
    have := ord_of_owns ho' (by simp)
    rw [List.length_append]
    exact this.kept (fun a e => by cases e; exact Below.heap_setCell _ _ _ _ hgT)
  · intro f hf
    rcases hmem f hf with q | rfl
    · have hok := h.half f q
      refine ⟨hok.1.kept (fun i qi => hc.block i (hok.1.lt qi) ?_), hok.2⟩
      have := h.eo f q i qi
      rintro (q1 | q1 | ⟨a, q1, q2⟩)
      · exact this.1 q1
      · exact this.2.1 q1
      · exact this.2.2 a q1 q2
    · exact ⟨⟨block_set_other hH (by show T ≠ hb; omega), sl_nil _ _, sl_nil _ _⟩, ⟨(fun a e => by cases e), (fun a e => by cases e), (fun a c e => by cases e)⟩⟩
  · intro f hf i qi
    rcases hmem f hf with q | rfl
    · have := h.eo f q i qi
      refine ⟨this.1, this.2.1, fun a e => ?_⟩
      cases e
      exact hgO (· ≠ i) (fun a e => this.2.2 a e) (fun q2 => by have := hlow f q i qi; omega)
    · have := newE_own qi; subst this
      exact ⟨by omega, by omega, fun a e => by cases e; exact fun q => hbg q.symm⟩
  · intro a b e f ha hb2 hab i q1 q2
    have cs : ∀ (j : Nat) (x : En), (L ++ [newE k now hb])[j]? = some x → (L[j]? = some x) ∨ (j = L.length ∧ x = newE k now hb) := fun j x hx => by
      rcases Nat.lt_or_ge j L.length with c | c
      · rw [List.getElem?_append_left c] at hx; exact .inl hx
      · rw [List.getElem?_append_right c] at hx
        have : j - L.length = 0 := by
          have := (List.getElem?_eq_some_iff.1 hx).1; simpa using this
        rw [this] at hx; simp at hx
        exact .inr ⟨by omega, hx.symm⟩
    rcases cs a e ha with qa | ⟨qa, rfl⟩ <;> rcases cs b f hb2 with qb | ⟨qb, rfl⟩
    · exact h.ee a b e f qa qb hab i q1 q2
    · have := newE_own q2; have := hlow e (List.mem_of_getElem? qa) i q1; omega
    · have := newE_own q1; have := hlow f (List.mem_of_getElem? qb) i q2; omega
    · omega
/-- find has laid a new entry -/
def NewPost (w : World) (T m : Nat) (O : Option Addr) (L : List En) (k : Ky) (now : Int) (x : Ending) (w' : World) : Prop :=
  ∃ es clk g c, x = .returned (.pointer (some ⟨w.heap.size + 2, 0, none⟩)) ∧ Tab w' T m es clk (some ⟨g, 0, none⟩) c (L ++ [newE k now (w.heap.size + 2)]) ∧ Chg (S3 T m O) w w' ∧ (O.map (·.block) = some g ∨ w.heap.size ≤ g)
end Go.Proofs.YtmgjcjacoegocaaGreatDoor.Re

namespace Go.Proofs.YtmgjcjacoegocaaGreatDoor.Re
set_option maxRecDepth 100000
open Go.RowKit Go.Proofs.YtmgjcjacoegocaaGreatDoor.Wire
open Go.Proofs.YtmgjcjacoegocaaGreatDoor.Ip (Pk)

set_option maxHeartbeats 4000000 in
theorem find_new (T m : Nat) (es : Array MapEntry) (clk : Nat) (O : Option Addr) (oc : Nat) (L : List En) (k : Ky) (hk : k ∉ L.map (·.k)) (now : Int) (w : World) (h : Tab w T m es clk O oc L) (hL : L.length < 8) :
    Calls Tryz.prog 46 #[.pointer (some ⟨T, 0, none⟩), .agg #[.int .i64 k.f, .int .i64 k.t, .int .i64 k.p, .int .i64 k.i], .int .i64 now] w (NewPost w T m O L k now) := by
  have HT0 := Lib.hid h; have HT0x := Lib.hid h
  have HB := below_alloc (o := .cells #[.int .i64 k.f, .int .i64 k.t, .int .i64 k.p, .int .i64 k.i] 128) (below_alloc (o := .cells #[.pointer (some ⟨T, 0, none⟩)] 49) (Below.refl w.heap.size w))
  have hp := block_alloc (alloc_new w (.cells #[.pointer (some ⟨T, 0, none⟩)] 49)) (.cells #[.int .i64 k.f, .int .i64 k.t, .int .i64 k.p, .int .i64 k.i] 128)
  have hkk := alloc_new' (w.alloc (.cells #[.pointer (some ⟨T, 0, none⟩)] 49)) (.cells #[.int .i64 k.f, .int .i64 k.t, .int .i64 k.p, .int .i64 k.i] 128) (w.heap.size + 1) (by simp)
  have hsz : ((w.alloc (.cells #[.pointer (some ⟨T, 0, none⟩)] 49)).alloc (.cells #[.int .i64 k.f, .int .i64 k.t, .int .i64 k.p, .int .i64 k.i] 128)).heap.size = w.heap.size + 2 := by simp
  go_enter Tryz.func46, Tryz.ntmps46
  go_upto_region 1 with fail
  generalize (w.alloc (.cells #[.pointer (some ⟨T, 0, none⟩)] 49)).alloc (.cells #[.int .i64 k.f, .int .i64 k.t, .int .i64 k.p, .int .i64 k.i] 128) = w1 at *
  have HT1 := Lib.hid (HT0.out.below HB)
  have hlk := look_none (W := w1.drew) (HT1.out.kept (fun _ _ => rfl)) k hk true
  have qt := (cell_of_block (k := 0) HT1.out.tab rfl).1
  have qp := (cell_of_box hp).1
  have qk0 := (cell_of_block (k := 0) hkk rfl).1; have qk1 := (cell_of_block (k := 1) hkk rfl).1; have qk2 := (cell_of_block (k := 2) hkk rfl).1; have qk3 := (cell_of_block (k := 3) hkk rfl).1
  have HP1 := Lib.hid hp; have HK1 := Lib.hid hkk; have HKN := Lib.hid hk; have HB1 := Lib.hid HB; have HSZ := Lib.hid hsz
  clear hp hkk HT0 HB hk hsz
  go_region
  clear qt qp qk0 qk1 qk2 qk3 hlk
  have HT2 : Hid (Tab w1.drew T m es clk O oc L) := Lib.hid (HT1.out.kept (fun _ _ => rfl))
  have HP2 : Hid (w1.drew.heap[w.heap.size]? = some (.cells #[.pointer (some ⟨T, 0, none⟩)] 49)) := Lib.hid HP1.out
  have HK2 : Hid (w1.drew.heap[w.heap.size + 1]? = some (.cells #[.int .i64 k.f, .int .i64 k.t, .int .i64 k.p, .int .i64 k.i] 128)) := Lib.hid HK1.out
  have HB2 := Lib.hid HB1.out.drew
  have HSZ2 : Hid (w1.drew.heap.size = w.heap.size + 2) := Lib.hid HSZ.out
  clear HT1 HP1 HK1 HB1 HSZ
  generalize w1.drew = w2 at *
  have qt := (cell_of_block (k := 0) HT2.out.tab rfl).1
  have qp := (cell_of_box HP2.out).1
  have hme := mapEq m
  go_upto_region 7 with fail
  clear qt hme
  have Hh3 := Lib.hid (alloc_new' w2 (.cells #[.int .i64 now, .bool false, .slice none 0 0, .slice none 0 0, .int .i64 0, .bool false, .int .i64 0, .bool false, .int .i64 0, .int .i64 0, .int .i64 0, .int .i64 0, .int .i64 0, .bool false, .bool false, .int .i64 0, .string ⟨#[]⟩] 133) (w.heap.size + 2) HSZ2.out)
  have HT3 := Lib.hid (HT2.out.below ((Below.refl _ _).alloc (Nat.le_refl _) (.cells #[.int .i64 now, .bool false, .slice none 0 0, .slice none 0 0, .int .i64 0, .bool false, .int .i64 0, .bool false, .int .i64 0, .int .i64 0, .int .i64 0, .int .i64 0, .int .i64 0, .bool false, .bool false, .int .i64 0, .string ⟨#[]⟩] 133)))
  have HP3 := Lib.hid (block_alloc HP2.out (.cells #[.int .i64 now, .bool false, .slice none 0 0, .slice none 0 0, .int .i64 0, .bool false, .int .i64 0, .bool false, .int .i64 0, .int .i64 0, .int .i64 0, .int .i64 0, .int .i64 0, .bool false, .bool false, .int .i64 0, .string ⟨#[]⟩] 133))
  have HK3 := Lib.hid (block_alloc HK2.out (.cells #[.int .i64 now, .bool false, .slice none 0 0, .slice none 0 0, .int .i64 0, .bool false, .int .i64 0, .bool false, .int .i64 0, .int .i64 0, .int .i64 0, .int .i64 0, .int .i64 0, .bool false, .bool false, .int .i64 0, .string ⟨#[]⟩] 133))
  have HB3 := Lib.hid (below_alloc (o := .cells #[.int .i64 now, .bool false, .slice none 0 0, .slice none 0 0, .int .i64 0, .bool false, .int .i64 0, .bool false, .int .i64 0, .int .i64 0, .int .i64 0, .int .i64 0, .int .i64 0, .bool false, .bool false, .int .i64 0, .string ⟨#[]⟩] 133) HB2.out)
  have HSZ3 : Hid ((w2.alloc (.cells #[.int .i64 now, .bool false, .slice none 0 0, .slice none 0 0, .int .i64 0, .bool false, .int .i64 0, .bool false, .int .i64 0, .int .i64 0, .int .i64 0, .int .i64 0, .int .i64 0, .bool false, .bool false, .int .i64 0, .string ⟨#[]⟩] 133)).heap.size = w.heap.size + 3) := Lib.hid (by have := HSZ2.out; simp; omega)
  rw [HSZ2.out]
  clear qp HT2 HP2 HK2 HB2 HSZ2
  generalize w2.alloc (.cells #[.int .i64 now, .bool false, .slice none 0 0, .slice none 0 0, .int .i64 0, .bool false, .int .i64 0, .bool false, .int .i64 0, .int .i64 0, .int .i64 0, .int .i64 0, .int .i64 0, .bool false, .bool false, .int .i64 0, .string ⟨#[]⟩] 133) = w3 at *
  have qt := (cell_of_block (k := 0) HT3.out.tab rfl).1
  have qp := (cell_of_box HP3.out).1
  have qk0 := (cell_of_block (k := 0) HK3.out rfl).1; have qk1 := (cell_of_block (k := 1) HK3.out rfl).1; have qk2 := (cell_of_block (k := 2) HK3.out rfl).1; have qk3 := (cell_of_block (k := 3) HK3.out rfl).1
  go_still_tail 6, (by kernel_rfl)
  change wpList _ _ _ _ _ w3.drew
  have hup := run_update_ky (W := w3.drew) k (.pointer (some ⟨w.heap.size + 2, 0, none⟩)) HT3.out.map HT3.out.ents HKN.out
  unfold tyM Ky.val at hup
  clear qt qp qk0 qk1 qk2 qk3
  obtain ⟨w4, hw4⟩ : ∃ W : World, W = { w3.drew with heap := w3.drew.heap.setIfInBounds m (.map (es.push { key := .agg #[.int .i64 k.f, .int .i64 k.t, .int .i64 k.p, .int .i64 k.i], val := .pointer (some ⟨w.heap.size + 2, 0, none⟩), born := clk }) (clk + 1)) } := ⟨_, rfl⟩
  rw [← hw4] at hup
  have HW4 := Lib.hid hw4; clear hw4
  go_upto_region 8 with fail
  have hw4 := HW4.out; clear HW4
  have hml := HT0x.out.lt (.inr (.inl rfl) : TOwn T m O L m); have hTl := HT0x.out.lt (.inl rfl : TOwn T m O L T)
  have HTT4 : Hid (w4.heap[T]? = some (.cells #[.map (some m), .slice O L.length oc] 126)) := Lib.hid (by rw [hw4]; exact block_setObj (W := w3.drew) HT3.out.tab HT3.out.tm)
  have HM4 : Hid (w4.heap[m]? = some (.map (es.push { key := .agg #[.int .i64 k.f, .int .i64 k.t, .int .i64 k.p, .int .i64 k.i], val := .pointer (some ⟨w.heap.size + 2, 0, none⟩), born := clk }) (clk + 1))) := Lib.hid (by rw [hw4]; exact block_setObj_same (W := w3.drew) HT3.out.map)
  have HP4 : Hid (w4.heap[w.heap.size]? = some (.cells #[.pointer (some ⟨T, 0, none⟩)] 49)) := Lib.hid (by rw [hw4]; exact block_setObj (W := w3.drew) HP3.out (by omega))
  have HK4 : Hid (w4.heap[w.heap.size + 1]? = some (.cells #[.int .i64 k.f, .int .i64 k.t, .int .i64 k.p, .int .i64 k.i] 128)) := Lib.hid (by rw [hw4]; exact block_setObj (W := w3.drew) HK3.out (by omega))
  have Hh4 : Hid (w4.heap[w.heap.size + 2]? = some (.cells #[.int .i64 now, .bool false, .slice none 0 0, .slice none 0 0, .int .i64 0, .bool false, .int .i64 0, .bool false, .int .i64 0, .int .i64 0, .int .i64 0, .int .i64 0, .int .i64 0, .bool false, .bool false, .int .i64 0, .string ⟨#[]⟩] 133)) := Lib.hid (by rw [hw4]; exact block_setObj (W := w3.drew) Hh3.out (by omega))
  have HSZ4 : Hid (w4.heap.size = w.heap.size + 3) := Lib.hid (by rw [hw4]; simp; exact HSZ3.out)
  have HO4 : Hid (Ord w4 O L.length oc (L.map (·.k))) := Lib.hid (HT3.out.ord.kept (fun a q => by
    rw [hw4]
    show (w3.drew.heap.setIfInBounds m _)[a.block]? = _
    rw [Array.getElem?_setIfInBounds_ne (fun q2 => (HT3.out.og a q).2 q2.symm)]; rfl))
  have HC4 : Hid (Chg (S3 T m O) w w4) := Lib.hid (by
    rw [hw4]
    have hc := (Chg.of_below (S := S3 T m O) HB3.out).drew
    exact ⟨hc.os, hc.tape, hc.output, by simpa using hc.size, fun q hq hn => by
      have hkm : q ≠ m := fun q2 => hn (.inr (.inl q2))
      show (w3.drew.heap.setIfInBounds m _)[q]? = _
      rw [Array.getElem?_setIfInBounds_ne (fun q2 => hkm q2.symm)]
      exact hc.block q hq hn⟩)
  clear hw4 hup Hh3 HT3 HP3 HK3 HB3 HSZ3
  obtain ⟨i0, hi, hz0, hz1, hz2⟩ := info_parts infoKy
  have Hown := Lib.hid (ord_owns HO4.out)
  have lt1 := blk_lt HTT4.out; have lt2 := blk_lt HP4.out; have lt3 := blk_lt HK4.out
  have qt := (cell_of_block (k := 1) HTT4.out rfl).1
  have qp := (cell_of_box HP4.out).1
  have qk0 := (cell_of_block (k := 0) HK4.out rfl).1; have qk1 := (cell_of_block (k := 1) HK4.out rfl).1; have qk2 := (cell_of_block (k := 2) HK4.out rfl).1; have qk3 := (cell_of_block (k := 3) HK4.out rfl).1
  have hob : Value.ownBlock (.slice O L.length oc) = O.map (·.block) := by cases O <;> rfl
  have HOB := Lib.hid hob; clear hob
  have HOT : Hid ((some T : Option Nat) ≠ O.map (·.block)) := Lib.hid (by
    intro e
    cases O with
    | none => cases e
    | some a => exact (HT0x.out.og a rfl).1 (by simpa using e.symm))
  have HOP : Hid ((some w.heap.size : Option Nat) ≠ O.map (·.block)) := Lib.hid (by
    intro e
    cases O with
    | none => cases e
    | some a => have := HT0x.out.ord.lt rfl; simp at e; omega)
  go_cut [47] (fun s47 wx => ∃ es clk g c, wx.heap[w.heap.size]? = some (.cells #[.pointer (some ⟨T, 0, none⟩)] 49) ∧ Tab wx T m es clk (some ⟨g, 0, none⟩) c (L ++ [newE k now (w.heap.size + 2)]) ∧ Chg (S3 T m O) w wx ∧ (O.map (·.block) = some g ∨ w.heap.size ≤ g))
  case first =>
    go_region_law (refine step_append_lies _ (by rfl) _ _ _ (by rfl) 0 128 i0 (.agg #[.int .i64 0, .int .i64 0, .int .i64 0, .int .i64 0]) 4 32 Tryz.underlying124 hi hz0 hz1 hz2 rfl (by decide) (.slice O L.length oc) L.length _ (by rfl) (Hown.out.alloc _) ⟨w4.heap.size, 0, none⟩ 1 1 [.int .i64 k.f, .int .i64 k.t, .int .i64 k.p, .int .i64 k.i] (by rfl) rfl (World.news_of_block (heap_alloc_new w4 _)) (by simp [Value.oneCell']) (by omega) (by unfold maxLen; omega) (by omega) (by simp) (w4.heap.size + 1) (by simp) ?_; intro g cap x5 hown5 hgrow5 hat5 hlt5; rw [HOB.out] at hgrow5 hat5; have hT5 := (hgrow5.block T (blk_lt (block_alloc HTT4.out _)) HOT.out).trans (block_alloc HTT4.out _); have q5 := (cell_of_block (k := 1) hT5 rfl).1; have z5 := (cell_of_block (k := 1) hT5 rfl).2; have hP5 := (hgrow5.block w.heap.size (blk_lt (block_alloc HP4.out _)) HOP.out).trans (block_alloc HP4.out _); have p5 := (cell_of_box hP5).1)
    all_goals
      go_wp2_with fail
      go_meet
      have hx5 : Chg (S3 T m O) w (x5.setCell ⟨T, 1, none⟩ (.slice (some ⟨g, 0, none⟩) (L.length + 1) cap)) := ((HC4.out.alloc _).drew.grown hgrow5 (fun q e => by
        cases O with
        | none => cases e
        | some a => exact .inl (.inr (.inr ⟨a, rfl, by simpa using e⟩)))).set (.inl (.inl rfl)) _
      have hatx : O.map (·.block) = some g ∨ w.heap.size + 3 ≤ g := hat5.imp id (fun q => by have := HSZ4.out; omega)
      have hne : ∀ q : Nat, (some q : Option Nat) = O.map (·.block) → q < w.heap.size := fun q e => by
        cases O with
        | none => cases e
        | some a => have := HT0x.out.ord.lt rfl; simp at e; omega
      refine ⟨_, _, g, cap, block_set_other hP5 (by show T ≠ _; omega), tab_push HT0x.out HKN.out hT5 ((hgrow5.block m (blk_lt (block_alloc HM4.out _)) (fun e => by
        cases O with
        | none => cases e
        | some a => exact (HT0x.out.og a rfl).2 (by simpa using e.symm))).trans (block_alloc HM4.out _)) ((hgrow5.block _ (blk_lt (block_alloc Hh4.out _)) (fun e => by have := hne _ e; omega)).trans (block_alloc Hh4.out _)) hown5 hx5 (hatx.imp id (fun q => by omega)) (by omega) ?_, hx5, hatx.imp id (fun q => by omega)⟩
      rcases hatx with q | q
      · have := hne g q.symm; omega
      · omega
  case rest =>
    obtain ⟨es', clk', g, c, hPx, hTx, hCx, hax⟩ := hcut
    have HTX := Lib.hid hTx; have HCX := Lib.hid hCx; have HAX := Lib.hid hax
    have qpx := (cell_of_box hPx).1
    have qtx := (cell_of_block (k := 1) hTx.tab rfl).1
    have hl9 : (L.length : Int) + 1 ≤ 8 := by omega
    have hl0 : decide ((8 : Int) < (L.length : Int) + 1) = false := by simp; omega
    rw [List.length_append, List.length_cons, List.length_nil] at qtx
    clear hPx hTx hCx hax qt qp qk0 qk1 qk2 qk3 HTT4 HM4 HP4 HK4 Hh4 HSZ4 HO4 HC4 hi hz0 hz1 hz2 Hown lt1 lt2 lt3 HOB HOT HOP h hL
    go_wp2_with fail
    go_ret
    exact ⟨es', clk', g, c, rfl, HTX.out, HCX.out, HAX.out⟩
end Go.Proofs.YtmgjcjacoegocaaGreatDoor.Re

namespace Go.Proofs.YtmgjcjacoegocaaGreatDoor.Re
set_option maxRecDepth 100000
open Go.RowKit Go.Proofs.YtmgjcjacoegocaaGreatDoor.Wire
open Go.Proofs.YtmgjcjacoegocaaGreatDoor.Ip (Pk vlenB)

def keyOf (p : Pk) : Ky := ⟨p.f, p.t, p.pr, p.id⟩
def vldB (p : Pk) : Bool := vlenB p.f p.t p.pr p.ttl p.id p.df p.mf p.off p.s.size
/-- the datagram that is complete -/
def outF (p : Pk) (H : Hf) : Pk := { f := p.f, t := p.t, pr := p.pr, ttl := H.first.ttl, id := p.id, df := false, mf := false, off := 0, s := ⟨H.by_.toArray⟩ }
/-- Put at an entry -/
def putH (A : List (Ky × Hf)) (i : Nat) (k : Ky) (H : Hf) (p : Pk) : List (Ky × Hf) × Pk × Bool × Int :=
  if H.rej = true then (A, pk0, false, 70)
  else if conflB H p = true then (A.set i (k, rejF H), pk0, false, 70)
  else if wholeB (storeF H p) = true then (A.eraseIdx i, outF p (storeF H p), true, 0)
  else (A.set i (k, storeF H p), pk0, false, 0)
def hasK (A : List (Ky × Hf)) (k : Ky) : Option Nat := (A.map (·.1)).findIdx? (fun x => decide (k = x))
def putA (A : List (Ky × Hf)) (now : Int) (p : Pk) : List (Ky × Hf) × Pk × Bool × Int :=
  if vldB p = false then (A, pk0, false, 60)
  else if p.mf = false ∧ p.off = 0 then (A, p, true, 0)
  else match hasK A (keyOf p) with
    | some i => putH A i (keyOf p) ((A[i]?.map (·.2)).getD (newF now)) p
    | none => putH (A ++ [(keyOf p, newF now)]) A.length (keyOf p) (newF now) p
/-- what every incomplete datagram meets -/
structure HInv (H : Hf) : Prop where
  len : H.hv.length = H.by_.length
  le : H.by_.length ≤ 4000
  cnt : H.cnt = ((H.hv.count true : Nat) : Int)
  en : 0 ≤ H.en ∧ H.en ≤ 4000
theorem HInv.cntB {H : Hf} (h : HInv H) : 0 ≤ H.cnt ∧ H.cnt ≤ 4000 := by
  have := List.count_le_length (a := true) (l := H.hv)
  have h1 := h.cnt; have h2 := h.len; have h3 := h.le
  omega
theorem hinv_new (now : Int) : HInv (newF now) := ⟨rfl, Nat.zero_le _, rfl, ⟨Int.le_refl _, by show (0 : Int) ≤ 4000; omega⟩⟩
theorem hinv_rej (H : Hf) : HInv (rejF H) := ⟨rfl, Nat.zero_le _, rfl, ⟨Int.le_refl _, by show (0 : Int) ≤ 4000; omega⟩⟩
theorem count_set : ∀ (l : List Bool) (j : Nat), l[j]? = some false → (l.set j true).count true = l.count true + 1
  | [], j, h => by simp at h
  | x :: l, 0, h => by simp at h; subst h; simp
  | x :: l, j + 1, h => by
    have := count_set l j (by simpa using h)
    simp only [List.set_cons_succ, List.count_cons, this]; omega
theorem hinv_lay {H : Hf} (h : HInv H) (j : Nat) (b : UInt8) (hj : j < H.by_.length) : HInv (laySet H j b) := by
  have e : H.hv[j]? = some (H.hv[j]'(by have := h.len; omega)) := List.getElem?_eq_getElem _
  cases hq : H.hv[j]'(by have := h.len; omega) with
  | true => rw [hq] at e; rw [laySet_there e]; exact h
  | false =>
    rw [hq] at e
    rw [laySet_new e]
    exact ⟨by simpa using h.len, by simpa using h.le, by show H.cnt + 1 = _; rw [count_set _ _ e, h.cnt]; omega, h.en⟩
theorem hinv_layN {H : Hf} (h : HInv H) (s : ByteArray) (o : Nat) : ∀ n, o + n ≤ H.by_.length → HInv (layN s o H n)
  | 0, _ => h
  | n + 1, hn => by
    have ih := hinv_layN h s o n (by omega)
    have := (layN_len s o H n).1
    exact hinv_lay ih _ _ (by omega)
theorem hinv_grow {H : Hf} (h : HInv H) (n : Nat) (hn : n ≤ 4000) : HInv (growF H n) := by
  have h1 := h.len; have h2 := h.le
  refine ⟨by simp [growF, h1], by simp [growF]; omega, ?_, h.en⟩
  show H.cnt = _
  rw [h.cnt]
  simp [growF, List.count_replicate]
theorem hinv_store {H : Hf} (h : HInv H) (p : Pk) (h0 : 0 ≤ p.off) (hm : p.off + p.s.size ≤ 4000) : HInv (storeF H p) := by
  obtain ⟨o, ho⟩ := Int.eq_ofNat_of_zero_le h0
  have e : p.off.toNat = o := by omega
  have h1 : HInv (layN p.s p.off.toNat (growF H (p.off.toNat + p.s.size)) p.s.size) := by
    refine hinv_layN (hinv_grow h _ (by omega)) _ _ _ ?_
    simp [growF]; omega
  have h2 : HInv (endF (layN p.s p.off.toNat (growF H (p.off.toNat + p.s.size)) p.s.size) p) := by
    unfold endF
    split
    · exact h1
    · exact ⟨h1.len, h1.le, h1.cnt, by show 0 ≤ p.off + p.s.size ∧ p.off + p.s.size ≤ 4000; omega⟩
  unfold storeF firstF
  split
  · exact ⟨h2.len, h2.le, h2.cnt, h2.en⟩
  · exact h2
def abs (L : List En) : List (Ky × Hf) := L.map fun e => (e.k, e.H)
theorem abs_keys (L : List En) : (abs L).map (·.1) = L.map (·.k) := by simp [abs]
theorem abs_get {L : List En} {i : Nat} {e : En} (h : L[i]? = some e) : (abs L)[i]? = some (e.k, e.H) := by simp [abs, h]
/-- find: the entry of the key, an old one or a new one -/
def FindPost (w : World) (T m : Nat) (O : Option Addr) (L : List En) (k : Ky) (now : Int) (x : Ending) (w' : World) : Prop :=
  ∃ es clk O' oc L1 i e, x = .returned (.pointer (some ⟨e.hb, 0, none⟩)) ∧ Tab w' T m es clk O' oc L1 ∧ L1[i]? = some e ∧ e.k = k ∧
    (((∃ f, L[i]? = some f ∧ f.k = k ∧ e = f) ∧ L1 = L ∧ hasK (abs L) k = some i) ∨ (i = L.length ∧ hasK (abs L) k = none ∧ abs L1 = abs L ++ [(k, newF now)] ∧ e.H = newF now)) ∧
    Chg (TOwn T m O L) w w' ∧ ∀ q, TOwn T m O' L1 q → TOwn T m O L q ∨ w.heap.size ≤ q
theorem find_any (T m : Nat) (es : Array MapEntry) (clk : Nat) (O : Option Addr) (oc : Nat) (L : List En) (k : Ky) (now : Int) (w : World) (h : Tab w T m es clk O oc L) (hL : L.length < 8 ∨ k ∈ L.map (·.k)) :
    Calls Tryz.prog 46 #[.pointer (some ⟨T, 0, none⟩), .agg #[.int .i64 k.f, .int .i64 k.t, .int .i64 k.p, .int .i64 k.i], .int .i64 now] w (FindPost w T m O L k now) := by
  by_cases hk : k ∈ L.map (·.k)
  · obtain ⟨i, hi⟩ := List.getElem?_of_mem hk
    rw [List.getElem?_map] at hi
    obtain ⟨e, he, hek⟩ : ∃ e, L[i]? = some e ∧ e.k = k := by
      cases hq : L[i]? with
      | none => rw [hq] at hi; cases hi
      | some e => rw [hq] at hi; exact ⟨e, rfl, by simpa using hi⟩
    subst hek
    refine (find_there T m es clk O oc L i e he now w h).mono ?_
    rintro x w' ⟨rfl, hb⟩
    refine ⟨es, clk, O, oc, L, i, e, rfl, h.below hb, he, rfl, .inl ⟨⟨e, he, rfl, rfl⟩, rfl, ?_⟩, Chg.of_below hb, fun q hq => .inl hq⟩
    unfold hasK
    rw [abs_keys]
    exact at_some h.nod (by simp [he])
  · have hL' : L.length < 8 := hL.resolve_right hk
    refine (find_new T m es clk O oc L k hk now w h hL').mono ?_
    rintro x w' ⟨es', clk', g, c, rfl, ht, hc, ha⟩
    refine ⟨es', clk', _, c, _, L.length, _, rfl, ht, by rw [List.getElem?_append_right (Nat.le_refl _), Nat.sub_self]; rfl, rfl, .inr ⟨rfl, ?_, by simp [abs, newE], rfl⟩, hc.mono ?_, ?_⟩
    · unfold hasK
      rw [abs_keys]
      exact at_none hk
    · rintro q (q1 | q1 | q1)
      · exact .inl q1
      · exact .inr (.inl q1)
      · exact .inr (.inr (.inl q1))
    · rintro q (q1 | q1 | ⟨a, e, q1⟩ | ⟨f, hf, q1⟩)
      · exact .inl (.inl q1)
      · exact .inl (.inr (.inl q1))
      · cases e
        rcases ha with q2 | q2
        · cases O with
          | none => cases q2
          | some a => exact .inl (.inr (.inr (.inl ⟨a, rfl, by simp at q2; rw [q2]; exact q1⟩)))
        · exact .inr (by simp at q1; omega)
      · rcases List.mem_append.1 hf with hf | hf
        · exact .inl (.inr (.inr (.inr ⟨f, hf, q1⟩)))
        · simp at hf; subst hf
          have := newE_own q1
          exact .inr (by omega)
end Go.Proofs.YtmgjcjacoegocaaGreatDoor.Re

namespace Go.Proofs.YtmgjcjacoegocaaGreatDoor.Re
set_option maxRecDepth 100000
open Go.RowKit Go.Proofs.YtmgjcjacoegocaaGreatDoor.Wire
open Go.Proofs.YtmgjcjacoegocaaGreatDoor.Ip (Pk vlenB)

/-- the results of a function whose first result is a struct in memory, and two more -/
theorem res_cell3 {P : Program} {fn : Func} {p q r : Tmp} {ty : TypeId} (h : fn.results = #[.cell p ty, .tmp q, .tmp r]) {tmps : Array Value} {w : World} {g : Nat} {t : TypeId} {cs : Array Value} {fr : Nat × Nat} {d : TypeDesc}
    (hg : w.heap[g]? = some (.cells cs t fr)) (hp : tmps.getD p undef = .pointer (some ⟨g, 0, none⟩))
    (hu : P.underlying ty = some d) (hd : (match d with | .struct _ | .array _ _ => true | _ => false) = true) (hi : (P.info? ty).map (·.size) = some cs.size) :
    (results fn tmps).run P w = .ok (.tuple #[.agg cs, tmps.getD q undef, tmps.getD r undef]) w := by
  have hp' : tmps[p]?.getD undef = .pointer (some ⟨g, 0, none⟩) := by simpa using hp
  simp [results, h, hp', asAddr, run_loadVar_row w g t ty cs fr d hg hu hd hi]
theorem infoPkt : (Tryz.prog.info? 48).map (·.size) = some 9 := by kernel_rfl
def PutPost (w : World) (T m : Nat) (O : Option Addr) (L : List En) (r : List (Ky × Hf) × Pk × Bool × Int) (x : Ending) (w' : World) : Prop :=
  x = .returned (.tuple #[.agg #[.int .i64 r.2.1.f, .int .i64 r.2.1.t, .int .i64 r.2.1.pr, .int .i64 r.2.1.ttl, .int .i64 r.2.1.id, .bool r.2.1.df, .bool r.2.1.mf, .int .i64 r.2.1.off, .string r.2.1.s], .bool r.2.2.1, .int .i64 r.2.2.2]) ∧
    ∃ es clk O' oc L', Tab w' T m es clk O' oc L' ∧ abs L' = r.1 ∧ (∀ e ∈ L', HInv e.H) ∧ Chg (TOwn T m O L) w w' ∧ ∀ q, TOwn T m O' L' q → TOwn T m O L q ∨ w.heap.size ≤ q
theorem find_put {L L1 : List En} {k : Ky} {now : Int} {i : Nat} {e : En} {p : Pk} (hk : k = keyOf p) (hi : L1[i]? = some e) (hv : vldB p = true) (hf : p.mf = true ∨ p.off ≠ 0) (hinv : ∀ e ∈ L, HInv e.H)
    (h : ((∃ f, L[i]? = some f ∧ f.k = k ∧ e = f) ∧ L1 = L ∧ hasK (abs L) k = some i) ∨ (i = L.length ∧ hasK (abs L) k = none ∧ abs L1 = abs L ++ [(k, newF now)] ∧ e.H = newF now)) :
    putA (abs L) now p = putH (abs L1) i (keyOf p) e.H p ∧ ∀ e ∈ L1, HInv e.H := by
  subst hk
  have hf' : ¬ (p.mf = false ∧ p.off = 0) := by rintro ⟨a, b⟩; rcases hf with q | q; (rw [a] at q; cases q); exact q b
  have e1 : putA (abs L) now p = match hasK (abs L) (keyOf p) with
    | some i => putH (abs L) i (keyOf p) (((abs L)[i]?.map (·.2)).getD (newF now)) p
    | none => putH (abs L ++ [(keyOf p, newF now)]) (abs L).length (keyOf p) (newF now) p := by
    unfold putA; rw [hv, if_neg (by simp), if_neg hf'] <;> (cases hasK (abs L) (keyOf p) <;> rfl)
  rw [e1]
  rcases h with ⟨⟨f, hf1, -, rfl⟩, rfl, h3⟩ | ⟨rfl, h2, h3, h4⟩
  · rw [h3]
    refine ⟨?_, hinv⟩
    show putH _ i _ _ p = _
    rw [abs_get hi]; rfl
  · rw [h2, h3, h4]
    refine ⟨by simp [abs], fun x hx => ?_⟩
    have : (x.k, x.H) ∈ abs L1 := List.mem_map.2 ⟨x, hx, rfl⟩
    rw [h3, List.mem_append] at this
    rcases this with q | q
    · obtain ⟨y, hy, hxy⟩ := List.mem_map.1 q
      have : y.H = x.H := congrArg Prod.snd hxy
      rw [← this]; exact hinv y hy
    · have : x.H = newF now := by simp at q; exact q.2
      rw [this]; exact hinv_new now
theorem push_fold : ∀ (l : List UInt8) (b : ByteArray), ((l.map fun x => ((x.toNat : Nat) : Int)).foldl (fun r n => r.push (UInt8.ofNat n.toNat)) b) = ⟨b.data ++ l.toArray⟩
  | [], b => by cases b; simp
  | x :: l, b => by
    rw [List.map_cons, List.foldl_cons, push_fold l]
    have : UInt8.ofNat ((x.toNat : Int)).toNat = x := by simp
    rw [this]
    congr 1
    simp [ByteArray.push]
theorem conv_sl {W : World} {A : Option Addr} {n c : Nat} {l : List UInt8} (h : Sl W (.slice A n c) 5 (byC l)) (hn : n = l.length) : (convert 105 9 (.slice A n c)).run Tryz.prog W = .ok (.string ⟨l.toArray⟩) W := by
  subst hn
  rw [run_convert_bytes_string W _ _ _ A l.length c Tryz.underlying105 Tryz.underlying5 Tryz.underlying9]
  rcases h.2 with ⟨e, h0⟩ | ⟨g, cap, cur, e, -⟩
  · have hl : l = [] := List.eq_nil_of_length_eq_zero (by simpa [byC] using h0)
    subst hl
    injection e with e1 e2 e3
    subst e1; subst e3
    rfl
  · injection e with e1 e2 e3
    subst e1
    have hc : ∀ j u, (byC l)[j]? = some u → W.cell? ((⟨g, 0, none⟩ : Addr).add j) = some u := World.ownsRow.cells h rfl
    have hld := run_loadCells_list (P := Tryz.prog) W ⟨g, 0, none⟩ (byC l) hc
    have hbl : byC l = (l.map fun x => ((x.toNat : Nat) : Int)).map (Value.int .u8) := by simp [byC]
    rw [show (byC l).length = l.length by simp [byC], hbl] at hld
    rw [run_bytesToString W ⟨g, 0, none⟩ l.length c _ hld, push_fold]
    congr 2
    have : ByteArray.empty.data = #[] := rfl
    rw [this, Array.empty_append]
theorem vld_bounds {p : Pk} (h : vldB p = true) : 0 ≤ p.off ∧ p.off + p.s.size ≤ 4000 := by
  unfold vldB vlenB at h
  have h := of_decide_eq_true h
  exact ⟨h.2.2.1.1, h.2.2.1.2.2.2⟩
theorem erase_set {α : Type} : ∀ (l : List α) (i : Nat) (x : α), (l.set i x).eraseIdx i = l.eraseIdx i
  | [], _, _ => rfl
  | _ :: _, 0, _ => rfl
  | a :: l, i + 1, x => by simp [erase_set l i x]
theorem drew_heap {W : World} {b : Nat} {o : Obj} (h : W.heap[b]? = some o) : W.drew.heap[b]? = some o := h
theorem put_end {w w3 W : World} {T m clk1 oc1 rb : Nat} {es1 : Array MapEntry} {O O1 : Option Addr} {L L1 : List En} (hT : Tab w3 T m es1 clk1 O1 oc1 L1) (hC : Chg (TOwn T m O L) w w3) (hr1 : w.heap.size ≤ rb) (hr2 : ¬ TOwn T m O1 L1 rb) (hg : w3.grownBy W (some rb)) :
    Tab W T m es1 clk1 O1 oc1 L1 ∧ Chg (TOwn T m O L) w W :=
  ⟨hT.kept (fun q hq => hg.block q (hT.lt hq) (fun e => hr2 (by cases e; exact hq))), hC.grown hg (fun q e => by cases e; exact .inr hr1)⟩
set_option maxHeartbeats 8000000 in
theorem put_main (T m : Nat) (es : Array MapEntry) (clk : Nat) (O : Option Addr) (oc : Nat) (L : List En) (now : Int) (p : Pk) (w : World) (h : Tab w T m es clk O oc L) (hinv : ∀ e ∈ L, HInv e.H) (hv : vldB p = true) (hf : p.mf = true ∨ p.off ≠ 0) (hs : p.s.size ≤ 9223372036854775807) (hL : L.length < 8 ∨ keyOf p ∈ L.map (·.k)) (hl9 : L.length ≤ 900) :
    Calls Tryz.prog 12 #[.pointer (some ⟨T, 0, none⟩), .int .i64 now, .agg #[.int .i64 p.f, .int .i64 p.t, .int .i64 p.pr, .int .i64 p.ttl, .int .i64 p.id, .bool p.df, .bool p.mf, .int .i64 p.off, .string p.s]] w (PutPost w T m O L (putA (abs L) now p)) := by
  have HT0 := Lib.hid h; have HI0 := Lib.hid hinv; have HL0 := Lib.hid hL
  have HL1000 := Lib.hid hl9; clear hl9
  have HV := Lib.hid hv; have HFR := Lib.hid hf
  have HVAL := Lib.hid fun W => Ip.valid_any p.f p.t p.pr p.ttl p.id p.df p.mf p.off p.s W hs
  have hv2 : vlenB p.f p.t p.pr p.ttl p.id p.df p.mf p.off p.s.size = true := hv
  rw [hv2] at HVAL; clear hv2 hv hinv hL
  have hp := alloc_new w (.cells #[.int .i64 p.f, .int .i64 p.t, .int .i64 p.pr, .int .i64 p.ttl, .int .i64 p.id, .bool p.df, .bool p.mf, .int .i64 p.off, .string p.s] 48)
  have HP := Lib.hid (block_alloc hp (.cells #[.int .i64 0, .int .i64 0, .int .i64 0, .int .i64 0, .int .i64 0, .bool false, .bool false, .int .i64 0, .string ⟨#[]⟩] 48)); clear hp
  have HR := Lib.hid (alloc_new' (w.alloc (.cells #[.int .i64 p.f, .int .i64 p.t, .int .i64 p.pr, .int .i64 p.ttl, .int .i64 p.id, .bool p.df, .bool p.mf, .int .i64 p.off, .string p.s] 48)) (.cells #[.int .i64 0, .int .i64 0, .int .i64 0, .int .i64 0, .int .i64 0, .bool false, .bool false, .int .i64 0, .string ⟨#[]⟩] 48) (w.heap.size + 1) (by simp))
  have HB := Lib.hid (below_alloc (o := .cells #[.int .i64 0, .int .i64 0, .int .i64 0, .int .i64 0, .int .i64 0, .bool false, .bool false, .int .i64 0, .string ⟨#[]⟩] 48) (below_alloc (o := .cells #[.int .i64 p.f, .int .i64 p.t, .int .i64 p.pr, .int .i64 p.ttl, .int .i64 p.id, .bool p.df, .bool p.mf, .int .i64 p.off, .string p.s] 48) (Below.refl w.heap.size w)))
  have hT0 := h.lt (.inl rfl : TOwn T m O L T)
  go_enter Tryz.func12, Tryz.ntmps12
  clear h
  go_wp2_with fail
  refine (HVAL.out _).mono ?_
  rintro x w1 ⟨rfl, hb⟩
  have HP' := Lib.hid (bblock hb HP.out); clear HP; have HP := HP'; clear HP'
  have HR' := Lib.hid (bblock hb HR.out); clear HR; have HR := HR'; clear HR'
  have HB' := Lib.hid (below_call HB.out hb); clear HB hb; have HB := HB'; clear HB'
  have qp0 := (cell_of_block (k := 0) HP.out rfl).1; have qp1 := (cell_of_block (k := 1) HP.out rfl).1; have qp2 := (cell_of_block (k := 2) HP.out rfl).1; have qp4 := (cell_of_block (k := 4) HP.out rfl).1; have qp6 := (cell_of_block (k := 6) HP.out rfl).1; have qp7 := (cell_of_block (k := 7) HP.out rfl).1
  have lt1 := blk_lt HP.out; have lt2 := blk_lt HR.out
  go_upto_region 5 with fail
  go_cut [25] (fun s25 wx => s25 = .bool false ∧ wx = w1)
  case first =>
    rcases HFR.out with hm | hm
    · rw [hm] at qp6
      go_wp2_with fail
      go_meet
      exact ⟨rfl, rfl⟩
    · have h0 : (p.off == 0) = false := by simp [hm]
      generalize p.mf = M at *
      cases M
      all_goals
        go_wp2_with fail
        go_meet
        exact ⟨rfl, rfl⟩
  case rest =>
    obtain ⟨rfl, rfl⟩ := hcut
    clear HVAL hf hs
    obtain ⟨w1, rfl⟩ : ∃ wo : World, wo = wc := ⟨_, rfl⟩
    go_upto_region 8 with fail
    have HK := Lib.hid (alloc_new w1 (.cells #[.int .i64 p.f, .int .i64 p.t, .int .i64 p.pr, .int .i64 p.id] 128))
    have HP' := Lib.hid (block_alloc HP.out (.cells #[.int .i64 p.f, .int .i64 p.t, .int .i64 p.pr, .int .i64 p.id] 128)); clear HP; have HP := HP'; clear HP'
    have HR' := Lib.hid (block_alloc HR.out (.cells #[.int .i64 p.f, .int .i64 p.t, .int .i64 p.pr, .int .i64 p.id] 128)); clear HR; have HR := HR'; clear HR'
    have HB' := Lib.hid (below_alloc (o := .cells #[.int .i64 p.f, .int .i64 p.t, .int .i64 p.pr, .int .i64 p.id] 128) HB.out); clear HB; have HB := HB'; clear HB'
    clear qp0 qp1 qp2 qp4 qp6 qp7 lt1 lt2
    have lt0 := HB.out.size
    obtain ⟨kb, hkb⟩ : ∃ kb, w1.heap.size = kb := ⟨_, rfl⟩
    rw [hkb] at HK
    have hkb2 : w.heap.size ≤ kb := by rw [← hkb]; have := blk_lt HP.out; simp at this; omega
    generalize w1.alloc (.cells #[.int .i64 p.f, .int .i64 p.t, .int .i64 p.pr, .int .i64 p.id] 128) = w2 at *
    rw [hkb]; clear hkb
    have HT2 := Lib.hid (HT0.out.below HB.out)
    have qk0 := (cell_of_block (k := 0) HK.out rfl).1; have qk1 := (cell_of_block (k := 1) HK.out rfl).1; have qk2 := (cell_of_block (k := 2) HK.out rfl).1; have qk3 := (cell_of_block (k := 3) HK.out rfl).1
    have HFI := Lib.hid (find_any T m es clk O oc L (keyOf p) now w2 HT2.out HL0.out)
    unfold keyOf at HFI
    go_wp2_with fail
    refine HFI.out.mono ?_
    rintro x w3 ⟨es1, clk1, O1, oc1, L1, i, e, rfl, hT3, hi, hek, hcase, hC3, hown3⟩
    have hlow : ∀ q, TOwn T m O L q → q < w.heap.size := fun q hq => HT0.out.lt hq
    have hsz2 := HB.out.size
    have hnew : ∀ q, w.heap.size ≤ q → q < w2.heap.size → ¬ TOwn T m O1 L1 q := fun q h1 h2 hq => by rcases hown3 q hq with r | r; (have := hlow q r; omega); omega
    have hkeep : ∀ q, w.heap.size ≤ q → q < w2.heap.size → w3.heap[q]? = w2.heap[q]? := fun q h1 h2 => hC3.block q h2 (fun r => by have := hlow q r; omega)
    have hP := blk_lt HP.out; have hR := blk_lt HR.out; have hK := blk_lt HK.out
    obtain ⟨hres, hi1⟩ := find_put rfl hi HV.out HFR.out HI0.out hcase
    have HLX : Hid (L1.length ≤ 990) := Lib.hid (by rcases hcase with ⟨-, q, -⟩ | ⟨-, -, q, -⟩; (rw [q]; have := HL1000.out; omega); (have := congrArg List.length q; simp [abs] at this; have := HL1000.out; omega))
    have HRES := Lib.hid hres; have HI1 := Lib.hid hi1; have HI := Lib.hid hi
    have HC := Lib.hid ((Chg.of_below (S := TOwn T m O L) HB.out).trans hC3 (fun _ q => .inl q))
    have HO : Hid (∀ q, TOwn T m O1 L1 q → TOwn T m O L q ∨ w.heap.size ≤ q) := Lib.hid fun q hq => (hown3 q hq).imp id (fun r => by omega)
    have NP := Lib.hid (hnew w.heap.size (Nat.le_refl _) hP); have NR := Lib.hid (hnew (w.heap.size + 1) (by omega) hR); have NK := Lib.hid (hnew kb hkb2 hK)
    have HP' := Lib.hid ((hkeep _ (Nat.le_refl _) hP).trans HP.out); have HR' := Lib.hid ((hkeep _ (by omega) hR).trans HR.out); have HK' := Lib.hid ((hkeep _ hkb2 hK).trans HK.out)
    have HEK := Lib.hid hek
    have HT := Lib.hid hT3
    clear HP HR HK hT3 hi hek hcase hC3 hown3 hlow hnew hkeep hres hi1 hP hR hK qk0 qk1 qk2 qk3 HFI HB HT2 lt0 hsz2
    have HP := HP'; have HR := HR'; have HK := HK'; clear HP' HR' HK'
    have HOK := Lib.hid (HT.out.half e (List.mem_of_getElem? HI.out))
    have HIE := Lib.hid (HI1.out e (List.mem_of_getElem? HI.out))
    have Hh := Lib.hid HOK.out.1.1
    have qh1 := (cell_of_block (k := 1) Hh.out rfl).1
    obtain ⟨Rj, hRj⟩ : ∃ b, e.H.rej = b := ⟨_, rfl⟩
    rw [hRj] at qh1
    have HRJ := Lib.hid hRj; clear hRj Hh
    cases Rj with
    | true =>
      have qR0 := (cell_of_block (k := 0) HR.out rfl).1; have zR0 := (cell_of_block (k := 0) HR.out rfl).2; have qR1 := (cell_of_block (k := 1) HR.out rfl).1; have zR1 := (cell_of_block (k := 1) HR.out rfl).2; have qR2 := (cell_of_block (k := 2) HR.out rfl).1; have zR2 := (cell_of_block (k := 2) HR.out rfl).2; have qR3 := (cell_of_block (k := 3) HR.out rfl).1; have zR3 := (cell_of_block (k := 3) HR.out rfl).2; have qR4 := (cell_of_block (k := 4) HR.out rfl).1; have zR4 := (cell_of_block (k := 4) HR.out rfl).2; have qR5 := (cell_of_block (k := 5) HR.out rfl).1; have zR5 := (cell_of_block (k := 5) HR.out rfl).2; have qR6 := (cell_of_block (k := 6) HR.out rfl).1; have zR6 := (cell_of_block (k := 6) HR.out rfl).2; have qR7 := (cell_of_block (k := 7) HR.out rfl).1; have zR7 := (cell_of_block (k := 7) HR.out rfl).2; have qR8 := (cell_of_block (k := 8) HR.out rfl).1; have zR8 := (cell_of_block (k := 8) HR.out rfl).2; have lt_R := blk_lt HR.out
      go_wp2_with fail
      have hpr : putH (abs L1) i (keyOf p) e.H p = (abs L1, pk0, false, 70) := by unfold putH; rw [if_pos HRJ.out]
      have HZ := stN_all [.int .i64 0, .int .i64 0, .int .i64 0, .int .i64 0, .int .i64 0, .bool false, .bool false, .int .i64 0, .string ⟨#[]⟩] HR.out rfl
      refine bodyPost_ret (v := .tuple #[.agg #[.int .i64 0, .int .i64 0, .int .i64 0, .int .i64 0, .int .i64 0, .bool false, .bool false, .int .i64 0, .string ⟨#[]⟩], .bool false, .int .i64 70]) (res_cell3 Tryz.results12 (by exact HZ) rfl Tryz.underlying48 rfl infoPkt) rfl ?_
      obtain ⟨hTz, hCz⟩ := put_end HT.out HC.out (Nat.le_succ _) NR.out (stN_only (B := w.heap.size + 1) [.int .i64 0, .int .i64 0, .int .i64 0, .int .i64 0, .int .i64 0, .bool false, .bool false, .int .i64 0, .string ⟨#[]⟩] 0 (World.grownBy.refl w3 _))
      refine ⟨?_, es1, clk1, O1, oc1, L1, hTz, ?_, HI1.out, hCz, HO.out⟩
      · rw [HRES.out, hpr]; rfl
      · rw [HRES.out, hpr]
    | false =>
      have hpb := vld_bounds HV.out
      have HCF := Lib.hid (conflicts_any e.H p e.hb e.Ab e.cb e.Ah e.ch w3 HOK.out.1 HIE.out.len hpb.1 (by omega) ⟨HIE.out.en.1, by have := HIE.out.en.2; omega⟩)
      have qP0 := (cell_of_block (k := 0) HP.out rfl).1; have zP0 := (cell_of_block (k := 0) HP.out rfl).2; have qP1 := (cell_of_block (k := 1) HP.out rfl).1; have zP1 := (cell_of_block (k := 1) HP.out rfl).2; have qP2 := (cell_of_block (k := 2) HP.out rfl).1; have zP2 := (cell_of_block (k := 2) HP.out rfl).2; have qP3 := (cell_of_block (k := 3) HP.out rfl).1; have zP3 := (cell_of_block (k := 3) HP.out rfl).2; have qP4 := (cell_of_block (k := 4) HP.out rfl).1; have zP4 := (cell_of_block (k := 4) HP.out rfl).2; have qP5 := (cell_of_block (k := 5) HP.out rfl).1; have zP5 := (cell_of_block (k := 5) HP.out rfl).2; have qP6 := (cell_of_block (k := 6) HP.out rfl).1; have zP6 := (cell_of_block (k := 6) HP.out rfl).2; have qP7 := (cell_of_block (k := 7) HP.out rfl).1; have zP7 := (cell_of_block (k := 7) HP.out rfl).2; have qP8 := (cell_of_block (k := 8) HP.out rfl).1; have zP8 := (cell_of_block (k := 8) HP.out rfl).2; have lt_P := blk_lt HP.out
      go_wp2_with fail
      obtain ⟨cf, hcf⟩ : ∃ b, conflB e.H p = b := ⟨_, rfl⟩
      rw [hcf] at HCF
      have HCFB := Lib.hid hcf; clear hcf
      refine HCF.out.mono ?_
      rintro x w4 ⟨rfl, hb⟩
      clear qP0 zP0 qP1 zP1 qP2 zP2 qP3 zP3 qP4 zP4 qP5 zP5 qP6 zP6 qP7 zP7 qP8 zP8 lt_P
      clear qh1
      have HP' := Lib.hid (bblock hb HP.out); clear HP; have HP := HP'; clear HP'
      have HR' := Lib.hid (bblock hb HR.out); clear HR; have HR := HR'; clear HR'
      have HK' := Lib.hid (bblock hb HK.out); clear HK; have HK := HK'; clear HK'
      have HT' := Lib.hid (HT.out.below hb); clear HT; have HT := HT'; clear HT'
      have HC' := Lib.hid (HC.out.call hb); clear HC; have HC := HC'; clear HC'
      have HH4 := Lib.hid (HOK.out.1.below hb); clear hb
      cases cf with
      | true =>
        go_wp2_with fail
        refine (reject_any e.H e.hb e.Ab e.cb e.Ah e.ch w4 HH4.out).mono ?_
        rintro x w5 ⟨rfl, hH5, hg5⟩
        have hmem := List.mem_of_getElem? HI.out
        have hst : HSt e.own w4 w5 e.hb (rejF e.H) none 0 none 0 := ⟨hH5, ⟨(fun a q => by cases q), (fun a q => by cases q), (fun a c q => by cases q)⟩, (Chg.refl _ _).grown hg5 (fun q r => by cases r; exact .inl (.inl rfl)), fun q r => by
          rcases r with r | ⟨a, r, -⟩ | ⟨a, r, -⟩
          · exact .inl (.inl r)
          · cases r
          · cases r⟩
        have hie := hinv_rej e.H
        obtain ⟨hT5, ho5, hc5⟩ := HT.out.setHalf (e' := { k := keyOf p, H := rejF e.H, hb := e.hb, Ab := none, cb := 0, Ah := none, ch := 0 }) HI.out HEK.out.symm rfl hst (fun q r => r)
        have hn5 : ∀ q, TOwn T m O1 (L1.set i { k := keyOf p, H := rejF e.H, hb := e.hb, Ab := none, cb := 0, Ah := none, ch := 0 }) q → TOwn T m O1 L1 q ∨ w4.heap.size ≤ q := ho5
        have HP' := Lib.hid ((hst.chg.block _ (blk_lt HP.out) (fun r => NP.out (.inr (.inr (.inr ⟨e, hmem, r⟩))))).trans HP.out)
        have NP' := Lib.hid (fun r => (hn5 (w.heap.size) r).elim NP.out (fun r2 => by have := blk_lt HP.out; omega))
        have HR' := Lib.hid ((hst.chg.block _ (blk_lt HR.out) (fun r => NR.out (.inr (.inr (.inr ⟨e, hmem, r⟩))))).trans HR.out)
        have NR' := Lib.hid (fun r => (hn5 (w.heap.size + 1) r).elim NR.out (fun r2 => by have := blk_lt HR.out; omega))
        have HK' := Lib.hid ((hst.chg.block _ (blk_lt HK.out) (fun r => NK.out (.inr (.inr (.inr ⟨e, hmem, r⟩))))).trans HK.out)
        have NK' := Lib.hid (fun r => (hn5 (kb) r).elim NK.out (fun r2 => by have := blk_lt HK.out; omega))
        have HT5 := Lib.hid hT5
        have HC5 := Lib.hid (HC.out.trans hc5 (fun q r => HO.out q r))
        have hsz4 := HC.out.size
        have HO5 : Hid (∀ q, TOwn T m O1 (L1.set i { k := keyOf p, H := rejF e.H, hb := e.hb, Ab := none, cb := 0, Ah := none, ch := 0 }) q → TOwn T m O L q ∨ w.heap.size ≤ q) := Lib.hid fun q r => (hn5 q r).elim (HO.out q) (fun r2 => .inr (by omega))
        have HI5 : Hid (∀ x ∈ L1.set i { k := keyOf p, H := rejF e.H, hb := e.hb, Ab := none, cb := 0, Ah := none, ch := 0 }, HInv x.H) := Lib.hid fun x hx => by
          rcases List.mem_or_eq_of_mem_set hx with r | r
          · exact HI1.out x r
          · subst r; exact hie
        clear HP HR HK hT5 ho5 hc5 hn5 hst hH5 hg5 hie HT HC HO HI1 NP NR NK HH4 HOK HIE hsz4
        have HR := HR'; have HP := HP'
        have qR0 := (cell_of_block (k := 0) HR.out rfl).1; have zR0 := (cell_of_block (k := 0) HR.out rfl).2; have qR1 := (cell_of_block (k := 1) HR.out rfl).1; have zR1 := (cell_of_block (k := 1) HR.out rfl).2; have qR2 := (cell_of_block (k := 2) HR.out rfl).1; have zR2 := (cell_of_block (k := 2) HR.out rfl).2; have qR3 := (cell_of_block (k := 3) HR.out rfl).1; have zR3 := (cell_of_block (k := 3) HR.out rfl).2; have qR4 := (cell_of_block (k := 4) HR.out rfl).1; have zR4 := (cell_of_block (k := 4) HR.out rfl).2; have qR5 := (cell_of_block (k := 5) HR.out rfl).1; have zR5 := (cell_of_block (k := 5) HR.out rfl).2; have qR6 := (cell_of_block (k := 6) HR.out rfl).1; have zR6 := (cell_of_block (k := 6) HR.out rfl).2; have qR7 := (cell_of_block (k := 7) HR.out rfl).1; have zR7 := (cell_of_block (k := 7) HR.out rfl).2; have qR8 := (cell_of_block (k := 8) HR.out rfl).1; have zR8 := (cell_of_block (k := 8) HR.out rfl).2; have lt_R := blk_lt HR.out
        go_wp2_with fail
        have hpr : putH (abs L1) i (keyOf p) e.H p = (abs (L1.set i { k := keyOf p, H := rejF e.H, hb := e.hb, Ab := none, cb := 0, Ah := none, ch := 0 }), pk0, false, 70) := by unfold putH; rw [if_neg (by rw [HRJ.out]; simp), if_pos HCFB.out]; simp [abs, List.map_set]
        have HZ := stN_all [.int .i64 0, .int .i64 0, .int .i64 0, .int .i64 0, .int .i64 0, .bool false, .bool false, .int .i64 0, .string ⟨#[]⟩] HR.out rfl
        refine bodyPost_ret (v := .tuple #[.agg #[.int .i64 0, .int .i64 0, .int .i64 0, .int .i64 0, .int .i64 0, .bool false, .bool false, .int .i64 0, .string ⟨#[]⟩], .bool false, .int .i64 70]) (res_cell3 Tryz.results12 (by exact HZ) rfl Tryz.underlying48 rfl infoPkt) rfl ?_
        obtain ⟨hTz, hCz⟩ := put_end HT5.out HC5.out (Nat.le_succ _) NR'.out (stN_only (B := w.heap.size + 1) [.int .i64 0, .int .i64 0, .int .i64 0, .int .i64 0, .int .i64 0, .bool false, .bool false, .int .i64 0, .string ⟨#[]⟩] 0 (World.grownBy.refl w5 _))
        refine ⟨?_, es1, clk1, O1, oc1, _, hTz, ?_, HI5.out, hCz, HO5.out⟩
        · rw [HRES.out, hpr]; rfl
        · rw [HRES.out, hpr]
      | false =>
        have hS4 : ∀ q, e.own q → q < w4.heap.size := fun q r => HH4.out.lt r
        have HST := Lib.hid (store_any e.H p e.hb e.Ab e.cb e.Ah e.ch w4 e.own HH4.out HOK.out.2 (fun q r => r) hS4 HIE.out.len hpb.1 hpb.2 HIE.out.le HIE.out.cntB)
        have qP0 := (cell_of_block (k := 0) HP.out rfl).1; have zP0 := (cell_of_block (k := 0) HP.out rfl).2; have qP1 := (cell_of_block (k := 1) HP.out rfl).1; have zP1 := (cell_of_block (k := 1) HP.out rfl).2; have qP2 := (cell_of_block (k := 2) HP.out rfl).1; have zP2 := (cell_of_block (k := 2) HP.out rfl).2; have qP3 := (cell_of_block (k := 3) HP.out rfl).1; have zP3 := (cell_of_block (k := 3) HP.out rfl).2; have qP4 := (cell_of_block (k := 4) HP.out rfl).1; have zP4 := (cell_of_block (k := 4) HP.out rfl).2; have qP5 := (cell_of_block (k := 5) HP.out rfl).1; have zP5 := (cell_of_block (k := 5) HP.out rfl).2; have qP6 := (cell_of_block (k := 6) HP.out rfl).1; have zP6 := (cell_of_block (k := 6) HP.out rfl).2; have qP7 := (cell_of_block (k := 7) HP.out rfl).1; have zP7 := (cell_of_block (k := 7) HP.out rfl).2; have qP8 := (cell_of_block (k := 8) HP.out rfl).1; have zP8 := (cell_of_block (k := 8) HP.out rfl).2; have lt_P := blk_lt HP.out
        clear hS4
        go_wp2_with fail
        refine HST.out.mono ?_
        rintro x w5 ⟨rfl, Ab', cb', Ah', ch', hst⟩
        clear qP0 zP0 qP1 zP1 qP2 zP2 qP3 zP3 qP4 zP4 qP5 zP5 qP6 zP6 qP7 zP7 qP8 zP8 lt_P
        have hmem := List.mem_of_getElem? HI.out
        have hie := hinv_store HIE.out p hpb.1 hpb.2
        obtain ⟨hT5, ho5, hc5⟩ := HT.out.setHalf (e' := { k := keyOf p, H := storeF e.H p, hb := e.hb, Ab := Ab', cb := cb', Ah := Ah', ch := ch' }) HI.out HEK.out.symm rfl hst (fun q r => r)
        have hn5 : ∀ q, TOwn T m O1 (L1.set i { k := keyOf p, H := storeF e.H p, hb := e.hb, Ab := Ab', cb := cb', Ah := Ah', ch := ch' }) q → TOwn T m O1 L1 q ∨ w4.heap.size ≤ q := ho5
        have HP' := Lib.hid ((hst.chg.block _ (blk_lt HP.out) (fun r => NP.out (.inr (.inr (.inr ⟨e, hmem, r⟩))))).trans HP.out)
        have NP' := Lib.hid (fun r => (hn5 (w.heap.size) r).elim NP.out (fun r2 => by have := blk_lt HP.out; omega))
        have HR' := Lib.hid ((hst.chg.block _ (blk_lt HR.out) (fun r => NR.out (.inr (.inr (.inr ⟨e, hmem, r⟩))))).trans HR.out)
        have NR' := Lib.hid (fun r => (hn5 (w.heap.size + 1) r).elim NR.out (fun r2 => by have := blk_lt HR.out; omega))
        have HK' := Lib.hid ((hst.chg.block _ (blk_lt HK.out) (fun r => NK.out (.inr (.inr (.inr ⟨e, hmem, r⟩))))).trans HK.out)
        have NK' := Lib.hid (fun r => (hn5 (kb) r).elim NK.out (fun r2 => by have := blk_lt HK.out; omega))
        have HT5 := Lib.hid hT5
        have HC5 := Lib.hid (HC.out.trans hc5 (fun q r => HO.out q r))
        have hsz4 := HC.out.size
        have HO5 : Hid (∀ q, TOwn T m O1 (L1.set i { k := keyOf p, H := storeF e.H p, hb := e.hb, Ab := Ab', cb := cb', Ah := Ah', ch := ch' }) q → TOwn T m O L q ∨ w.heap.size ≤ q) := Lib.hid fun q r => (hn5 q r).elim (HO.out q) (fun r2 => .inr (by omega))
        have HI5 : Hid (∀ x ∈ L1.set i { k := keyOf p, H := storeF e.H p, hb := e.hb, Ab := Ab', cb := cb', Ah := Ah', ch := ch' }, HInv x.H) := Lib.hid fun x hx => by
          rcases List.mem_or_eq_of_mem_set hx with r | r
          · exact HI1.out x r
          · subst r; exact hie
        have HSX := Lib.hid hst.half
        have HIL := Lib.hid (List.getElem?_eq_some_iff.1 HI.out).1
        clear HP HR HK hT5 ho5 hc5 hn5 hst hie HT HC HO HI1 NP NR NK HH4 HOK HIE hsz4 HST hmem
        have HP := HP'; have HR := HR'; have HK := HK'; have NP := NP'; have NR := NR'; have NK := NK'; clear HP' HR' HK' NP' NR' NK'
        have HW := Lib.hid (whole_any (storeF e.H p) e.hb Ab' cb' Ah' ch' w5 HSX.out)
        obtain ⟨wf, hwf⟩ : ∃ b, wholeB (storeF e.H p) = b := ⟨_, rfl⟩
        rw [hwf] at HW
        have HWF := Lib.hid hwf; clear hwf
        go_wp2_with fail
        refine HW.out.mono ?_
        rintro x w6 ⟨rfl, hb⟩
        have HP' := Lib.hid (bblock hb HP.out); clear HP; have HP := HP'; clear HP'
        have HR' := Lib.hid (bblock hb HR.out); clear HR; have HR := HR'; clear HR'
        have HK' := Lib.hid (bblock hb HK.out); clear HK; have HK := HK'; clear HK'
        have HT6 := Lib.hid (HT5.out.below hb)
        have HC6 := Lib.hid (HC5.out.call hb)
        have HSX' := Lib.hid (HSX.out.below hb); clear HSX hb HT5 HC5; have HSX := HSX'; clear HSX'
        have hpr : putH (abs L1) i (keyOf p) e.H p = if wholeB (storeF e.H p) = true then ((abs L1).eraseIdx i, outF p (storeF e.H p), true, 0) else ((abs L1).set i (keyOf p, storeF e.H p), pk0, false, 0) := by unfold putH; rw [if_neg (by rw [HRJ.out]; simp), if_neg (by rw [HCFB.out]; simp)]
        rw [HWF.out] at hpr
        have HPR := Lib.hid hpr; clear hpr
        cases wf with
        | false =>
          have qR0 := (cell_of_block (k := 0) HR.out rfl).1; have zR0 := (cell_of_block (k := 0) HR.out rfl).2; have qR1 := (cell_of_block (k := 1) HR.out rfl).1; have zR1 := (cell_of_block (k := 1) HR.out rfl).2; have qR2 := (cell_of_block (k := 2) HR.out rfl).1; have zR2 := (cell_of_block (k := 2) HR.out rfl).2; have qR3 := (cell_of_block (k := 3) HR.out rfl).1; have zR3 := (cell_of_block (k := 3) HR.out rfl).2; have qR4 := (cell_of_block (k := 4) HR.out rfl).1; have zR4 := (cell_of_block (k := 4) HR.out rfl).2; have qR5 := (cell_of_block (k := 5) HR.out rfl).1; have zR5 := (cell_of_block (k := 5) HR.out rfl).2; have qR6 := (cell_of_block (k := 6) HR.out rfl).1; have zR6 := (cell_of_block (k := 6) HR.out rfl).2; have qR7 := (cell_of_block (k := 7) HR.out rfl).1; have zR7 := (cell_of_block (k := 7) HR.out rfl).2; have qR8 := (cell_of_block (k := 8) HR.out rfl).1; have zR8 := (cell_of_block (k := 8) HR.out rfl).2; have lt_R := blk_lt HR.out
          go_wp2_with fail
          have hpr : putH (abs L1) i (keyOf p) e.H p = (abs (L1.set i { k := keyOf p, H := storeF e.H p, hb := e.hb, Ab := Ab', cb := cb', Ah := Ah', ch := ch' }), pk0, false, 0) := by rw [HPR.out, if_neg (by simp)]; simp [abs, List.map_set]
          have HZ := stN_all [.int .i64 0, .int .i64 0, .int .i64 0, .int .i64 0, .int .i64 0, .bool false, .bool false, .int .i64 0, .string ⟨#[]⟩] HR.out rfl
          refine bodyPost_ret (v := .tuple #[.agg #[.int .i64 0, .int .i64 0, .int .i64 0, .int .i64 0, .int .i64 0, .bool false, .bool false, .int .i64 0, .string ⟨#[]⟩], .bool false, .int .i64 0]) (res_cell3 Tryz.results12 (by exact HZ) rfl Tryz.underlying48 rfl infoPkt) rfl ?_
          obtain ⟨hTz, hCz⟩ := put_end HT6.out HC6.out (Nat.le_succ _) NR.out (stN_only (B := w.heap.size + 1) [.int .i64 0, .int .i64 0, .int .i64 0, .int .i64 0, .int .i64 0, .bool false, .bool false, .int .i64 0, .string ⟨#[]⟩] 0 (World.grownBy.refl w6 _))
          refine ⟨?_, es1, clk1, O1, oc1, _, hTz, ?_, HI5.out, hCz, HO5.out⟩
          · rw [HRES.out, hpr]; rfl
          · rw [HRES.out, hpr]
        | true =>
          have hsi : (L1.set i { k := keyOf p, H := storeF e.H p, hb := e.hb, Ab := Ab', cb := cb', Ah := Ah', ch := ch' })[i]? = some { k := keyOf p, H := storeF e.H p, hb := e.hb, Ab := Ab', cb := cb', Ah := Ah', ch := ch' } := by rw [List.getElem?_set]; simp [HIL.out]
          have HRM := Lib.hid fun hl => remove_any T m es1 clk1 O1 oc1 (L1.set i { k := keyOf p, H := storeF e.H p, hb := e.hb, Ab := Ab', cb := cb', Ah := Ah', ch := ch' }) i { k := keyOf p, H := storeF e.H p, hb := e.hb, Ab := Ab', cb := cb', Ah := Ah', ch := ch' } hsi w6 HT6.out hl
          unfold keyOf at HRM
          have qk0 := (cell_of_block (k := 0) HK.out rfl).1; have qk1 := (cell_of_block (k := 1) HK.out rfl).1; have qk2 := (cell_of_block (k := 2) HK.out rfl).1; have qk3 := (cell_of_block (k := 3) HK.out rfl).1
          go_wp2_with fail
          refine (HRM.out (by rw [List.length_set]; have := HLX.out; omega)).mono ?_
          rintro x w7 ⟨rfl, es7, hT7, hc7⟩
          clear qk0 qk1 qk2 qk3
          have hme : { k := keyOf p, H := storeF e.H p, hb := e.hb, Ab := Ab', cb := cb', Ah := Ah', ch := ch' } ∈ L1.set i { k := keyOf p, H := storeF e.H p, hb := e.hb, Ab := Ab', cb := cb', Ah := Ah', ch := ch' } := List.mem_of_getElem? hsi
          have hs3 : ∀ q, S3 T m O1 q → TOwn T m O1 (L1.set i { k := keyOf p, H := storeF e.H p, hb := e.hb, Ab := Ab', cb := cb', Ah := Ah', ch := ch' }) q := fun q r => by
            rcases r with r | r | r
            · exact .inl r
            · exact .inr (.inl r)
            · exact .inr (.inr (.inl r))
          have HP' := Lib.hid ((hc7.block _ (blk_lt HP.out) (fun r => NP.out (hs3 _ r))).trans HP.out)
          have HR' := Lib.hid ((hc7.block _ (blk_lt HR.out) (fun r => NR.out (hs3 _ r))).trans HR.out)
          have HS7 := Lib.hid (HSX.out.kept (W' := w7) (fun q r => hc7.block q (HSX.out.lt r) (fun r2 => by
            have := HT6.out.eo _ hme q r
            rcases r2 with r2 | r2 | ⟨a, r2, r3⟩
            · exact this.1 r2
            · exact this.2.1 r2
            · exact this.2.2 a r2 r3)))
          have hsub : ∀ x, x ∈ (L1.set i { k := keyOf p, H := storeF e.H p, hb := e.hb, Ab := Ab', cb := cb', Ah := Ah', ch := ch' }).eraseIdx i → x ∈ L1.set i { k := keyOf p, H := storeF e.H p, hb := e.hb, Ab := Ab', cb := cb', Ah := Ah', ch := ch' } := fun x hx => (List.eraseIdx_sublist _ _).subset hx
          have HI7 : Hid (∀ x ∈ (L1.set i { k := keyOf p, H := storeF e.H p, hb := e.hb, Ab := Ab', cb := cb', Ah := Ah', ch := ch' }).eraseIdx i, HInv x.H) := Lib.hid fun x hx => HI5.out x (hsub x hx)
          have hso : ∀ q, TOwn T m O1 ((L1.set i { k := keyOf p, H := storeF e.H p, hb := e.hb, Ab := Ab', cb := cb', Ah := Ah', ch := ch' }).eraseIdx i) q → TOwn T m O1 (L1.set i { k := keyOf p, H := storeF e.H p, hb := e.hb, Ab := Ab', cb := cb', Ah := Ah', ch := ch' }) q := fun q r => by
            rcases r with r | r | r | ⟨x, hx, r⟩
            · exact .inl r
            · exact .inr (.inl r)
            · exact .inr (.inr (.inl r))
            · exact .inr (.inr (.inr ⟨x, hsub x hx, r⟩))
          have HO7 : Hid (∀ q, TOwn T m O1 ((L1.set i { k := keyOf p, H := storeF e.H p, hb := e.hb, Ab := Ab', cb := cb', Ah := Ah', ch := ch' }).eraseIdx i) q → TOwn T m O L q ∨ w.heap.size ≤ q) := Lib.hid fun q r => HO5.out q (hso q r)
          have NR' := Lib.hid (fun r => NR.out (hso _ r))
          have HC7 := Lib.hid (HC6.out.trans hc7 (fun q r => HO5.out q (hs3 q r)))
          have HT7 := Lib.hid hT7
          clear HP HR HK hs3 hme hsi HRM hT7 hc7 hsub hso HSX HT6 HC6 NP NR NK HO5 HI5 HW
          have HP := HP'; have HR := HR'; clear HP' HR'
          have hcv := conv_sl (W := w7.drew) (A := Ab') (c := cb') (l := (storeF e.H p).by_) (by exact HS7.out.2.1) rfl
          have Hh := Lib.hid HS7.out.1
          have qh2 := (cell_of_block (k := 2) Hh.out rfl).1; have qh11 := (cell_of_block (k := 11) Hh.out rfl).1
          have qp0 := (cell_of_block (k := 0) HP.out rfl).1; have qp1 := (cell_of_block (k := 1) HP.out rfl).1; have qp2 := (cell_of_block (k := 2) HP.out rfl).1; have qp4 := (cell_of_block (k := 4) HP.out rfl).1
          have qR0 := (cell_of_block (k := 0) HR.out rfl).1; have zR0 := (cell_of_block (k := 0) HR.out rfl).2; have qR1 := (cell_of_block (k := 1) HR.out rfl).1; have zR1 := (cell_of_block (k := 1) HR.out rfl).2; have qR2 := (cell_of_block (k := 2) HR.out rfl).1; have zR2 := (cell_of_block (k := 2) HR.out rfl).2; have qR3 := (cell_of_block (k := 3) HR.out rfl).1; have zR3 := (cell_of_block (k := 3) HR.out rfl).2; have qR4 := (cell_of_block (k := 4) HR.out rfl).1; have zR4 := (cell_of_block (k := 4) HR.out rfl).2; have qR5 := (cell_of_block (k := 5) HR.out rfl).1; have zR5 := (cell_of_block (k := 5) HR.out rfl).2; have qR6 := (cell_of_block (k := 6) HR.out rfl).1; have zR6 := (cell_of_block (k := 6) HR.out rfl).2; have qR7 := (cell_of_block (k := 7) HR.out rfl).1; have zR7 := (cell_of_block (k := 7) HR.out rfl).2; have qR8 := (cell_of_block (k := 8) HR.out rfl).1; have zR8 := (cell_of_block (k := 8) HR.out rfl).2; have lt_R := blk_lt HR.out
          have ltp := blk_lt HP.out
          go_upto_region 18 with fail
          go_region
          go_wp2_with fail
          have hpr : putH (abs L1) i (keyOf p) e.H p = (abs ((L1.set i { k := keyOf p, H := storeF e.H p, hb := e.hb, Ab := Ab', cb := cb', Ah := Ah', ch := ch' }).eraseIdx i), outF p (storeF e.H p), true, 0) := by rw [HPR.out, if_pos trivial]; simp only [abs, map_erase, List.map_set]; rw [erase_set]
          have HZ := stN_all [.int .i64 p.f, .int .i64 p.t, .int .i64 p.pr, .int .i64 (storeF e.H p).first.ttl, .int .i64 p.id, .bool false, .bool false, .int .i64 0, .string ⟨(storeF e.H p).by_.toArray⟩] HR.out rfl
          have HZ2 := drew_heap HZ
          refine bodyPost_ret (v := .tuple #[.agg #[.int .i64 p.f, .int .i64 p.t, .int .i64 p.pr, .int .i64 (storeF e.H p).first.ttl, .int .i64 p.id, .bool false, .bool false, .int .i64 0, .string ⟨(storeF e.H p).by_.toArray⟩], .bool true, .int .i64 0]) (res_cell3 Tryz.results12 (by exact HZ2) rfl Tryz.underlying48 rfl infoPkt) rfl ?_
          obtain ⟨hTz, hCz⟩ := put_end HT7.out HC7.out (Nat.le_succ _) NR'.out (only_drew (stN_only (B := w.heap.size + 1) [.int .i64 p.f, .int .i64 p.t, .int .i64 p.pr, .int .i64 (storeF e.H p).first.ttl, .int .i64 p.id, .bool false, .bool false, .int .i64 0, .string ⟨(storeF e.H p).by_.toArray⟩] 0 (World.grownBy.refl w7 _)))
          refine ⟨?_, es7, clk1, O1, oc1, _, hTz, ?_, HI7.out, hCz, HO7.out⟩
          · rw [HRES.out, hpr]; rfl
          · rw [HRES.out, hpr]; rfl
end Go.Proofs.YtmgjcjacoegocaaGreatDoor.Re

namespace Go.Proofs.YtmgjcjacoegocaaGreatDoor.Re
set_option maxRecDepth 100000
open Go.RowKit Go.Proofs.YtmgjcjacoegocaaGreatDoor.Wire
open Go.Proofs.YtmgjcjacoegocaaGreatDoor.Ip (Pk vlenB)

def PkV (p : Pk) : Value := .agg #[.int .i64 p.f, .int .i64 p.t, .int .i64 p.pr, .int .i64 p.ttl, .int .i64 p.id, .bool p.df, .bool p.mf, .int .i64 p.off, .string p.s]
def PutRes (q : Pk) (ok : Bool) (err : Int) : Ending := .returned (.tuple #[PkV q, .bool ok, .int .i64 err])
set_option maxHeartbeats 4000000 in
theorem put_nil (now : Int) (p : Pk) (w : World) :
    Calls Tryz.prog 12 #[.pointer none, .int .i64 now, .agg #[.int .i64 p.f, .int .i64 p.t, .int .i64 p.pr, .int .i64 p.ttl, .int .i64 p.id, .bool p.df, .bool p.mf, .int .i64 p.off, .string p.s]] w fun x w' => x = PutRes pk0 false 1 ∧ Below w.heap.size w w' := by
  have HP := Lib.hid (block_alloc (alloc_new w (.cells #[.int .i64 p.f, .int .i64 p.t, .int .i64 p.pr, .int .i64 p.ttl, .int .i64 p.id, .bool p.df, .bool p.mf, .int .i64 p.off, .string p.s] 48)) (.cells #[.int .i64 0, .int .i64 0, .int .i64 0, .int .i64 0, .int .i64 0, .bool false, .bool false, .int .i64 0, .string ⟨#[]⟩] 48))
  have HR := Lib.hid (alloc_new' (w.alloc (.cells #[.int .i64 p.f, .int .i64 p.t, .int .i64 p.pr, .int .i64 p.ttl, .int .i64 p.id, .bool p.df, .bool p.mf, .int .i64 p.off, .string p.s] 48)) (.cells #[.int .i64 0, .int .i64 0, .int .i64 0, .int .i64 0, .int .i64 0, .bool false, .bool false, .int .i64 0, .string ⟨#[]⟩] 48) (w.heap.size + 1) (by simp))
  have HB := Lib.hid (below_alloc (o := .cells #[.int .i64 0, .int .i64 0, .int .i64 0, .int .i64 0, .int .i64 0, .bool false, .bool false, .int .i64 0, .string ⟨#[]⟩] 48) (below_alloc (o := .cells #[.int .i64 p.f, .int .i64 p.t, .int .i64 p.pr, .int .i64 p.ttl, .int .i64 p.id, .bool p.df, .bool p.mf, .int .i64 p.off, .string p.s] 48) (Below.refl w.heap.size w)))
  go_enter Tryz.func12, Tryz.ntmps12
  go_wp2_with fail
  refine bodyPost_ret (v := .tuple #[.agg #[.int .i64 0, .int .i64 0, .int .i64 0, .int .i64 0, .int .i64 0, .bool false, .bool false, .int .i64 0, .string ⟨#[]⟩], .bool false, .int .i64 1]) (res_cell3 Tryz.results12 (by exact HR.out) rfl Tryz.underlying48 rfl infoPkt) rfl ?_
  exact ⟨rfl, HB.out⟩
set_option maxHeartbeats 4000000 in
theorem put_bad (T : Nat) (now : Int) (p : Pk) (w : World) (hv : vldB p = false) (hs : p.s.size ≤ 9223372036854775807) :
    Calls Tryz.prog 12 #[.pointer (some ⟨T, 0, none⟩), .int .i64 now, .agg #[.int .i64 p.f, .int .i64 p.t, .int .i64 p.pr, .int .i64 p.ttl, .int .i64 p.id, .bool p.df, .bool p.mf, .int .i64 p.off, .string p.s]] w fun x w' => x = PutRes pk0 false 60 ∧ Below w.heap.size w w' := by
  have HVAL := Lib.hid fun W => Ip.valid_any p.f p.t p.pr p.ttl p.id p.df p.mf p.off p.s W hs
  have hv2 : vlenB p.f p.t p.pr p.ttl p.id p.df p.mf p.off p.s.size = false := hv
  rw [hv2] at HVAL; clear hv2 hv
  have HP := Lib.hid (block_alloc (alloc_new w (.cells #[.int .i64 p.f, .int .i64 p.t, .int .i64 p.pr, .int .i64 p.ttl, .int .i64 p.id, .bool p.df, .bool p.mf, .int .i64 p.off, .string p.s] 48)) (.cells #[.int .i64 0, .int .i64 0, .int .i64 0, .int .i64 0, .int .i64 0, .bool false, .bool false, .int .i64 0, .string ⟨#[]⟩] 48))
  have HR := Lib.hid (alloc_new' (w.alloc (.cells #[.int .i64 p.f, .int .i64 p.t, .int .i64 p.pr, .int .i64 p.ttl, .int .i64 p.id, .bool p.df, .bool p.mf, .int .i64 p.off, .string p.s] 48)) (.cells #[.int .i64 0, .int .i64 0, .int .i64 0, .int .i64 0, .int .i64 0, .bool false, .bool false, .int .i64 0, .string ⟨#[]⟩] 48) (w.heap.size + 1) (by simp))
  have HB := Lib.hid (below_alloc (o := .cells #[.int .i64 0, .int .i64 0, .int .i64 0, .int .i64 0, .int .i64 0, .bool false, .bool false, .int .i64 0, .string ⟨#[]⟩] 48) (below_alloc (o := .cells #[.int .i64 p.f, .int .i64 p.t, .int .i64 p.pr, .int .i64 p.ttl, .int .i64 p.id, .bool p.df, .bool p.mf, .int .i64 p.off, .string p.s] 48) (Below.refl w.heap.size w)))
  go_enter Tryz.func12, Tryz.ntmps12
  go_wp2_with fail
  refine (HVAL.out _).mono ?_
  rintro x w1 ⟨rfl, hb⟩
  have HR' := Lib.hid (bblock hb HR.out); clear HR; have HR := HR'; clear HR'
  have HB' := Lib.hid (below_call HB.out hb); clear HB hb; have HB := HB'; clear HB'
  have qR0 := (cell_of_block (k := 0) HR.out rfl).1; have zR0 := (cell_of_block (k := 0) HR.out rfl).2; have qR1 := (cell_of_block (k := 1) HR.out rfl).1; have zR1 := (cell_of_block (k := 1) HR.out rfl).2; have qR2 := (cell_of_block (k := 2) HR.out rfl).1; have zR2 := (cell_of_block (k := 2) HR.out rfl).2; have qR3 := (cell_of_block (k := 3) HR.out rfl).1; have zR3 := (cell_of_block (k := 3) HR.out rfl).2; have qR4 := (cell_of_block (k := 4) HR.out rfl).1; have zR4 := (cell_of_block (k := 4) HR.out rfl).2; have qR5 := (cell_of_block (k := 5) HR.out rfl).1; have zR5 := (cell_of_block (k := 5) HR.out rfl).2; have qR6 := (cell_of_block (k := 6) HR.out rfl).1; have zR6 := (cell_of_block (k := 6) HR.out rfl).2; have qR7 := (cell_of_block (k := 7) HR.out rfl).1; have zR7 := (cell_of_block (k := 7) HR.out rfl).2; have qR8 := (cell_of_block (k := 8) HR.out rfl).1; have zR8 := (cell_of_block (k := 8) HR.out rfl).2; have lt_R := blk_lt HR.out
  go_wp2_with fail
  have HZ := stN_all [.int .i64 0, .int .i64 0, .int .i64 0, .int .i64 0, .int .i64 0, .bool false, .bool false, .int .i64 0, .string ⟨#[]⟩] HR.out rfl
  refine bodyPost_ret (v := .tuple #[.agg #[.int .i64 0, .int .i64 0, .int .i64 0, .int .i64 0, .int .i64 0, .bool false, .bool false, .int .i64 0, .string ⟨#[]⟩], .bool false, .int .i64 60]) (res_cell3 Tryz.results12 (by exact HZ) rfl Tryz.underlying48 rfl infoPkt) rfl ?_
  exact ⟨rfl, stN_below (by simp) [.int .i64 0, .int .i64 0, .int .i64 0, .int .i64 0, .int .i64 0, .bool false, .bool false, .int .i64 0, .string ⟨#[]⟩] _ 0 HB.out⟩
set_option maxHeartbeats 4000000 in
theorem put_whole (T : Nat) (now : Int) (p : Pk) (w : World) (hv : vldB p = true) (hm : p.mf = false) (h0 : p.off = 0) (hs : p.s.size ≤ 9223372036854775807) :
    Calls Tryz.prog 12 #[.pointer (some ⟨T, 0, none⟩), .int .i64 now, .agg #[.int .i64 p.f, .int .i64 p.t, .int .i64 p.pr, .int .i64 p.ttl, .int .i64 p.id, .bool p.df, .bool p.mf, .int .i64 p.off, .string p.s]] w fun x w' => x = PutRes p true 0 ∧ Below w.heap.size w w' := by
  have HVAL := Lib.hid fun W => Ip.valid_any p.f p.t p.pr p.ttl p.id p.df p.mf p.off p.s W hs
  have hv2 : vlenB p.f p.t p.pr p.ttl p.id p.df p.mf p.off p.s.size = true := hv
  rw [hv2] at HVAL; clear hv2 hv
  have HRS : Hid (PutRes p true 0 = .returned (.tuple #[.agg #[.int .i64 p.f, .int .i64 p.t, .int .i64 p.pr, .int .i64 p.ttl, .int .i64 p.id, .bool p.df, .bool false, .int .i64 p.off, .string p.s], .bool true, .int .i64 0])) := Lib.hid (by unfold PutRes PkV; rw [hm])
  have HM := Lib.hid hm; have H0 := Lib.hid h0; clear hm h0
  have HP := Lib.hid (block_alloc (alloc_new w (.cells #[.int .i64 p.f, .int .i64 p.t, .int .i64 p.pr, .int .i64 p.ttl, .int .i64 p.id, .bool p.df, .bool p.mf, .int .i64 p.off, .string p.s] 48)) (.cells #[.int .i64 0, .int .i64 0, .int .i64 0, .int .i64 0, .int .i64 0, .bool false, .bool false, .int .i64 0, .string ⟨#[]⟩] 48))
  have HR := Lib.hid (alloc_new' (w.alloc (.cells #[.int .i64 p.f, .int .i64 p.t, .int .i64 p.pr, .int .i64 p.ttl, .int .i64 p.id, .bool p.df, .bool p.mf, .int .i64 p.off, .string p.s] 48)) (.cells #[.int .i64 0, .int .i64 0, .int .i64 0, .int .i64 0, .int .i64 0, .bool false, .bool false, .int .i64 0, .string ⟨#[]⟩] 48) (w.heap.size + 1) (by simp))
  have HB := Lib.hid (below_alloc (o := .cells #[.int .i64 0, .int .i64 0, .int .i64 0, .int .i64 0, .int .i64 0, .bool false, .bool false, .int .i64 0, .string ⟨#[]⟩] 48) (below_alloc (o := .cells #[.int .i64 p.f, .int .i64 p.t, .int .i64 p.pr, .int .i64 p.ttl, .int .i64 p.id, .bool p.df, .bool p.mf, .int .i64 p.off, .string p.s] 48) (Below.refl w.heap.size w)))
  go_enter Tryz.func12, Tryz.ntmps12
  go_wp2_with fail
  refine (HVAL.out _).mono ?_
  rintro x w1 ⟨rfl, hb⟩
  have HP' := Lib.hid (bblock hb HP.out); clear HP; have HP := HP'; clear HP'
  have HR' := Lib.hid (bblock hb HR.out); clear HR; have HR := HR'; clear HR'
  have HB' := Lib.hid (below_call HB.out hb); clear HB hb; have HB := HB'; clear HB'
  have qP0 := (cell_of_block (k := 0) HP.out rfl).1; have zP0 := (cell_of_block (k := 0) HP.out rfl).2; have qP1 := (cell_of_block (k := 1) HP.out rfl).1; have zP1 := (cell_of_block (k := 1) HP.out rfl).2; have qP2 := (cell_of_block (k := 2) HP.out rfl).1; have zP2 := (cell_of_block (k := 2) HP.out rfl).2; have qP3 := (cell_of_block (k := 3) HP.out rfl).1; have zP3 := (cell_of_block (k := 3) HP.out rfl).2; have qP4 := (cell_of_block (k := 4) HP.out rfl).1; have zP4 := (cell_of_block (k := 4) HP.out rfl).2; have qP5 := (cell_of_block (k := 5) HP.out rfl).1; have zP5 := (cell_of_block (k := 5) HP.out rfl).2; have qP6 := (cell_of_block (k := 6) HP.out rfl).1; have zP6 := (cell_of_block (k := 6) HP.out rfl).2; have qP7 := (cell_of_block (k := 7) HP.out rfl).1; have zP7 := (cell_of_block (k := 7) HP.out rfl).2; have qP8 := (cell_of_block (k := 8) HP.out rfl).1; have zP8 := (cell_of_block (k := 8) HP.out rfl).2; have lt_P := blk_lt HP.out
  have qR0 := (cell_of_block (k := 0) HR.out rfl).1; have zR0 := (cell_of_block (k := 0) HR.out rfl).2; have qR1 := (cell_of_block (k := 1) HR.out rfl).1; have zR1 := (cell_of_block (k := 1) HR.out rfl).2; have qR2 := (cell_of_block (k := 2) HR.out rfl).1; have zR2 := (cell_of_block (k := 2) HR.out rfl).2; have qR3 := (cell_of_block (k := 3) HR.out rfl).1; have zR3 := (cell_of_block (k := 3) HR.out rfl).2; have qR4 := (cell_of_block (k := 4) HR.out rfl).1; have zR4 := (cell_of_block (k := 4) HR.out rfl).2; have qR5 := (cell_of_block (k := 5) HR.out rfl).1; have zR5 := (cell_of_block (k := 5) HR.out rfl).2; have qR6 := (cell_of_block (k := 6) HR.out rfl).1; have zR6 := (cell_of_block (k := 6) HR.out rfl).2; have qR7 := (cell_of_block (k := 7) HR.out rfl).1; have zR7 := (cell_of_block (k := 7) HR.out rfl).2; have qR8 := (cell_of_block (k := 8) HR.out rfl).1; have zR8 := (cell_of_block (k := 8) HR.out rfl).2; have lt_R := blk_lt HR.out
  have qP6' : w1.cell? ⟨w.heap.size, 6, none⟩ = some (.bool p.mf) := qP6
  have qP7' : w1.cell? ⟨w.heap.size, 7, none⟩ = some (.int .i64 p.off) := qP7
  have e0 : (p.off == 0) = true := by rw [H0.out]; rfl
  clear qP6 qP7
  have hM := HM.out
  generalize p.mf = mf at *
  subst hM
  go_wp2_with fail
  have HZ := stN_all [.int .i64 p.f, .int .i64 p.t, .int .i64 p.pr, .int .i64 p.ttl, .int .i64 p.id, .bool p.df, .bool false, .int .i64 p.off, .string p.s] HR.out rfl
  refine bodyPost_ret (v := .tuple #[.agg #[.int .i64 p.f, .int .i64 p.t, .int .i64 p.pr, .int .i64 p.ttl, .int .i64 p.id, .bool p.df, .bool false, .int .i64 p.off, .string p.s], .bool true, .int .i64 0]) (res_cell3 Tryz.results12 (by exact HZ) rfl Tryz.underlying48 rfl infoPkt) rfl ?_
  exact ⟨HRS.out.symm, stN_below (by simp) [.int .i64 p.f, .int .i64 p.t, .int .i64 p.pr, .int .i64 p.ttl, .int .i64 p.id, .bool p.df, .bool false, .int .i64 p.off, .string p.s] _ 0 HB.out⟩
end Go.Proofs.YtmgjcjacoegocaaGreatDoor.Re
