/-
  Maps and slices whose keys are structs of four integers: equality, look-up, a new key, a key struck out. No condition.
-/
import Derived.Test.YtmeldgnjgogacaaRows
import Derived.Test.YtmeldgnjgogacaaBase1
import Derived.MapKept
import Derived.WalkKit
namespace Go.Proofs.Ytmeldgnjgogacaa.Re
set_option maxRecDepth 100000
open Go.RowKit Go.Proofs.Ytmeldgnjgogacaa.Wire

/-- a key -/
structure Ky where
  f : Int
  t : Int
  p : Int
  i : Int
deriving DecidableEq
def Ky.val (k : Ky) : Value := .agg #[.int .i64 k.f, .int .i64 k.t, .int .i64 k.p, .int .i64 k.i]
theorem eqKy (a b : Ky) : ∀ w : World, (Op.equalIn 10000 79 (.agg #[.int .i64 a.f, .int .i64 a.t, .int .i64 a.p, .int .i64 a.i]) (.agg #[.int .i64 b.f, .int .i64 b.t, .int .i64 b.p, .int .i64 b.i])).run Try.prog w = .ok (decide (a = b)) w := by
  intro w
  have he : decide (a = b) = decide (a.f = b.f ∧ a.t = b.t ∧ a.p = b.p ∧ a.i = b.i) := by
    apply decide_eq_decide.2
    constructor
    · rintro rfl; exact ⟨rfl, rfl, rfl, rfl⟩
    · rintro ⟨h1, h2, h3, h4⟩; cases a; cases b; simp_all
  rw [he]
  go_simp
  by_cases h0 : a.f = b.f
  case neg => simp [h0]
  by_cases h1 : a.t = b.t
  case neg => simp [h0, h1]
  by_cases h2 : a.p = b.p
  case neg => simp [h0, h1, h2]
  by_cases h3 : a.i = b.i <;> simp [h0, h1, h2, h3]
theorem checkKy (e : Bool) (k : Ky) (w : World) : (Instr.checkKey e 10000 79 k.val).run Try.prog w = .ok () w := by kernel_rfl
/-- the entries of a map: keys ks, values vs, in the order in which they were laid -/
def Ents (es : Array MapEntry) (ks : List Ky) (vs : List Value) : Prop := es.toList.map (·.key) = ks.map Ky.val ∧ es.toList.map (·.val) = vs
/-- where a key stands -/
def at? (k : Ky) (ks : List Ky) : Option Nat := ks.findIdx? (fun x => decide (k = x))
theorem run_asking (w : World) (k : Ky) : ∀ (ks : List Ky) (l : List MapEntry) (vs : List Value) (i : Nat), l.map (·.key) = ks.map Ky.val → l.map (·.val) = vs →
    (Instr.findAsking 79 k.val l i).run Try.prog w = .ok ((at? k ks).bind fun j => (vs[j]?).map fun v => (i + j, v)) w
  | [], l, vs, i, h1, h2 => by
    have : l = [] := by simpa using h1
    subst this; rfl
  | x :: ks, l, vs, i, h1, h2 => by
    cases l with
    | nil => simp at h1
    | cons e l =>
      simp only [List.map_cons, List.cons.injEq] at h1
      obtain ⟨he, h1⟩ := h1
      subst h2
      have hq : (Op.equal 79 k.val e.key).run Try.prog w = .ok (decide (k = x)) w := by rw [he]; exact eqKy k x w
      unfold Instr.findAsking
      rw [Sem.run_bind, hq]
      by_cases hk : k = x
      · subst hk
        simp only [Result.andThen, decide_true, if_true, at?, List.findIdx?_cons, Option.bind_some, List.map_cons, List.getElem?_cons_zero, Option.map_some, Nat.add_zero]; rfl
      · have ih := run_asking w k ks l (l.map (·.val)) (i + 1) h1 rfl
        simp only [Result.andThen, hk, decide_false, Bool.false_eq_true, if_false]
        rw [ih]
        congr 1
        unfold at?
        rw [List.findIdx?_cons]
        simp only [hk, decide_false, Bool.false_eq_true, if_false]
        cases List.findIdx? (fun y => decide (k = y)) ks with
        | none => rfl
        | some j => simp only [Option.bind_some, Option.map_some, List.map_cons, List.getElem?_cons_succ]; rw [show i + 1 + j = i + (j + 1) by omega]
theorem underK : ∃ fs, Try.prog.underlying 79 = some (.struct fs) := ⟨_, Try.underlying79⟩
theorem run_findKey_ky (w : World) (k : Ky) {es : Array MapEntry} {ks : List Ky} {vs : List Value} (h : Ents es ks vs) :
    (Instr.findKey 79 k.val es.toList).run Try.prog w = .ok ((at? k ks).bind fun j => (vs[j]?).map fun v => (j, v)) w := by
  obtain ⟨fs, hfs⟩ := underK
  have key := run_asking w k ks es.toList vs 0 h.1 h.2
  simp only [Nat.zero_add] at key
  cases hl : es.toList with
  | nil =>
    have hk : ks = [] := by have := h.1; rw [hl] at this; simpa using this.symm
    subst hk
    exact Go.MapKept.run_findKey hfs rfl
  | cons e l =>
    rw [hl] at key
    rw [← key]
    simp [Instr.findKey, run_underlying hfs, Result.andThen, Instr.findNow, Instr.sameNow]
theorem at_none {k : Ky} {ks : List Ky} (h : k ∉ ks) : at? k ks = none := by
  unfold at?
  rw [List.findIdx?_eq_none_iff]
  intro x hx
  simp only [decide_eq_false_iff_not]
  rintro rfl; exact h hx
theorem at_some {k : Ky} {ks : List Ky} (hn : ks.Nodup) {j : Nat} (h : ks[j]? = some k) : at? k ks = some j := by
  unfold at?
  obtain ⟨hj, rfl⟩ := List.getElem?_eq_some_iff.1 h
  rw [List.findIdx?_eq_some_iff_getElem]
  refine ⟨hj, by simp, fun i hi => ?_⟩
  simp only [decide_eq_true_eq]
  intro e
  exact (List.pairwise_iff_getElem.1 hn) i j (by omega) hj hi e.symm
def tyM : TypeId := 69
theorem underM : Try.prog.underlying tyM = some (.map 79 80) := Try.underlying69
theorem zeroH (w : World) : (zeroValue 80).run Try.prog w = .ok (.pointer none) w := by kernel_rfl
/-- a look-up -/
theorem run_lookup_ky {W : World} {r clk : Nat} {es : Array MapEntry} {ks : List Ky} {vs : List Value} (k : Ky) (c : Bool) (hb : W.heap[r]? = some (.map es clk)) (h : Ents es ks vs) :
    (Instr.lookup tyM (.map (some r)) k.val c).run Try.prog W = .ok (let u := ((at? k ks).bind fun j => vs[j]?); if c then .tuple #[u.getD (.pointer none), .bool u.isSome] else u.getD (.pointer none)) W := by
  unfold Instr.lookup
  simp only [Sem.run_bind, run_underlying underM, Result.andThen, Go.MapKept.run_getObj_map hb, checkKy, Sem.run_pure]
  rw [run_findKey_ky W k h]
  cases ha : at? k ks with
  | none => simp only [Option.bind_none, Sem.run_bind, zeroH, Result.andThen, Sem.run_pure]; cases c <;> rfl
  | some j => cases hv : vs[j]? with
    | none => simp [Result.andThen, hv]
    | some v => simp [hv]
/-- a new key -/
theorem run_update_ky {W : World} {r clk : Nat} {es : Array MapEntry} {ks : List Ky} {vs : List Value} (k : Ky) (v : Value) (hb : W.heap[r]? = some (.map es clk)) (h : Ents es ks vs) (hk : k ∉ ks) :
    (Instr.mapUpdate tyM (.map (some r)) k.val v).run Try.prog W = .ok () { W with heap := W.heap.setIfInBounds r (.map (es.push { key := k.val, val := v, born := clk }) (clk + 1)) } := by
  unfold Instr.mapUpdate
  simp [run_underlying underM, Go.MapKept.run_getObj_map hb, checkKy, run_findKey_ky W k h, at_none hk, Go.MapKept.run_setObj_map _ hb, Result.andThen]
/-- a key struck out -/
theorem run_delete_ky {W : World} {r clk : Nat} {es : Array MapEntry} {ks : List Ky} {vs : List Value} (k : Ky) (ty : TypeId) (hb : W.heap[r]? = some (.map es clk)) (h : Ents es ks vs) (hn : ks.Nodup) {j : Nat} (hj : ks[j]? = some k) :
    (Builtin.delete_ #[tyM, 79] ty #[.map (some r), k.val]).run Try.prog W = .ok (.tuple #[]) { W with heap := W.heap.setIfInBounds r (.map (es.eraseIdxIfInBounds j) clk) } := by
  have hl : vs.length = ks.length := by
    have e1 := congrArg List.length h.1; have e2 := congrArg List.length h.2
    simp at e1 e2; omega
  obtain ⟨v, hv⟩ : ∃ v, vs[j]? = some v := ⟨vs[j]'(by rw [hl]; exact (List.getElem?_eq_some_iff.1 hj).1), List.getElem?_eq_getElem _⟩
  unfold Builtin.delete_
  simp [run_underlying underM, Go.MapKept.run_getObj_map hb, checkKy, run_findKey_ky W k h, at_some hn hj, hv, Go.MapKept.run_setObj_map _ hb, Result.andThen]
theorem Ents.push {es : Array MapEntry} {ks : List Ky} {vs : List Value} (h : Ents es ks vs) (k : Ky) (v : Value) (b : Nat) : Ents (es.push { key := k.val, val := v, born := b }) (ks ++ [k]) (vs ++ [v]) := by
  obtain ⟨h1, h2⟩ := h
  constructor <;> simp [h1, h2]
theorem map_erase {α β : Type} (f : α → β) : ∀ (l : List α) (j : Nat), (l.eraseIdx j).map f = (l.map f).eraseIdx j
  | [], _ => rfl
  | _ :: _, 0 => rfl
  | x :: l, j + 1 => by simp [map_erase f l j]
theorem Ents.erase {es : Array MapEntry} {ks : List Ky} {vs : List Value} (h : Ents es ks vs) (j : Nat) : Ents (es.eraseIdxIfInBounds j) (ks.eraseIdx j) (vs.eraseIdx j) := by
  obtain ⟨h1, h2⟩ := h
  subst h2
  have e : (es.eraseIdxIfInBounds j).toList = es.toList.eraseIdx j := by simp
  constructor
  · rw [e, map_erase, h1, map_erase]
  · rw [e, map_erase]
end Go.Proofs.Ytmeldgnjgogacaa.Re
