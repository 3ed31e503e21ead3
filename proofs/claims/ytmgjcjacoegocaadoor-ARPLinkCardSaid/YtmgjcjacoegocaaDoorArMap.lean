/-
  Maps keyed by an int: look-ups, a new key, a key set anew, a key struck out.
-/
import Derived.Test.YtmgjcjacoegocaaDoorMapInt
import Derived.Test.YtmgjcjacoegocaaDoorRows
namespace Go.Proofs.YtmgjcjacoegocaaDoor.Ar
set_option maxRecDepth 100000
open Go.RowKit Go.Proofs.YtmgjcjacoegocaaDoor.Wire

/-- the entries of a map: keys and values in their order -/
def Ents (es : Array MapEntry) (ks : List Int) (vs : List Value) : Prop := es.toList.map (·.key) = ks.map (fun k => Value.int .i64 k) ∧ es.toList.map (·.val) = vs
theorem find_none (k : Int) : ∀ (l : List MapEntry) (ks : List Int) (i : Nat), l.map (·.key) = ks.map (fun k => Value.int .i64 k) → k ∉ ks → Instr.findNow (.int .i64) (.int .i64 k) l i = some none
  | [], _, _, _, _ => rfl
  | x :: l, ks, i, h, hn => by
    match ks, h, hn with
    | a :: ks, h, hn =>
      simp only [List.map_cons, List.cons.injEq] at h
      have hb : (k == a) = false := by rw [beq_eq_false_iff_ne]; exact fun e => hn (by simp [e])
      have e1 : Instr.findNow (.int .i64) (.int .i64 k) (x :: l) i = Instr.findNow (.int .i64) (.int .i64 k) l (i + 1) := by simp [Instr.findNow, Instr.sameNow, h.1, hb]
      rw [e1]
      exact find_none k l ks (i + 1) h.2 (fun q => hn (List.mem_cons_of_mem _ q))
theorem find_some (k : Int) : ∀ (l : List MapEntry) (ks : List Int) (vs : List Value) (i j : Nat) (v : Value), l.map (·.key) = ks.map (fun k => Value.int .i64 k) → l.map (·.val) = vs → ks.Nodup → ks[j]? = some k → vs[j]? = some v → Instr.findNow (.int .i64) (.int .i64 k) l i = some (some (i + j, v))
  | [], ks, _, _, j, _, h, _, _, hj, _ => by
    have : ks = [] := by simpa using h.symm
    subst this; simp at hj
  | x :: l, ks, vs, i, j, v, h, hv, hn, hj, hvj => by
    match ks, h, hn, hj with
    | a :: ks, h, hn, hj =>
      subst hv
      simp only [List.map_cons, List.cons.injEq] at h
      cases j with
      | zero =>
        have e : a = k := by simpa using hj
        subst e
        have e2 : x.val = v := by simpa using hvj
        subst e2
        simp [Instr.findNow, Instr.sameNow, h.1]
      | succ j =>
        have hmem : k ∈ ks := List.mem_of_getElem? (by simpa using hj)
        have hb : (k == a) = false := by
          rw [beq_eq_false_iff_ne]; rintro rfl
          exact (List.nodup_cons.1 hn).1 hmem
        have e1 : Instr.findNow (.int .i64) (.int .i64 k) (x :: l) i = Instr.findNow (.int .i64) (.int .i64 k) l (i + 1) := by simp [Instr.findNow, Instr.sameNow, h.1, hb]
        rw [e1, find_some k l ks _ (i + 1) j v h.2 rfl (List.nodup_cons.1 hn).2 (by simpa using hj) (by simpa using hvj)]
        congr 2; congr 1; omega
def tyM : TypeId := 100
theorem underM : Tryd.prog.underlying tyM = some (.map 3 124) := Tryd.underlying100
theorem zeroE (w : World) : (zeroValue 124).run Tryd.prog w = .ok .nilIface w := by kernel_rfl
theorem underI : Tryd.prog.underlying 3 = some (.int .i64) := Tryd.underlying3
section
variable {W : World} {r clk : Nat} {es : Array MapEntry} {ks : List Int} {vs : List Value}
/-- a look-up at the nil map -/
theorem run_look_nil (k : Int) : (Instr.lookup tyM (.map none) (.int .i64 k) false).run Tryd.prog W = .ok .nilIface W := by
  unfold Instr.lookup
  simp [run_underlying underM, Result.andThen, Go.MapKept.run_checkKey underI (show Go.MapKept.IsKey (.int .i64) (.int .i64 k) from rfl), Go.MapKept.run_findKey underI (show Instr.findNow (.int .i64) (.int .i64 k) [] 0 = some none from rfl)]
theorem run_look_none (k : Int) (hb : W.heap[r]? = some (.map es clk)) (h : Ents es ks vs) (hk : k ∉ ks) : (Instr.lookup tyM (.map (some r)) (.int .i64 k) false).run Tryd.prog W = .ok .nilIface W := by
  unfold Instr.lookup
  simp [run_underlying underM, Result.andThen, Go.MapKept.run_getObj_map hb, Go.MapKept.run_checkKey underI (show Go.MapKept.IsKey (.int .i64) (.int .i64 k) from rfl), Go.MapKept.run_findKey underI (find_none k _ ks 0 h.1 hk)]
theorem run_look_some (k : Int) {j : Nat} {v : Value} (hb : W.heap[r]? = some (.map es clk)) (h : Ents es ks vs) (hn : ks.Nodup) (hj : ks[j]? = some k) (hv : vs[j]? = some v) : (Instr.lookup tyM (.map (some r)) (.int .i64 k) false).run Tryd.prog W = .ok v W := by
  unfold Instr.lookup
  simp [run_underlying underM, Result.andThen, Go.MapKept.run_getObj_map hb, Go.MapKept.run_checkKey underI (show Go.MapKept.IsKey (.int .i64) (.int .i64 k) from rfl), Go.MapKept.run_findKey underI (find_some k _ ks vs 0 j v h.1 h.2 hn hj hv)]
/-- a new key -/
theorem run_upd_new (k : Int) (v : Value) (hb : W.heap[r]? = some (.map es clk)) (h : Ents es ks vs) (hk : k ∉ ks) :
    (Instr.mapUpdate tyM (.map (some r)) (.int .i64 k) v).run Tryd.prog W = .ok () { W with heap := W.heap.setIfInBounds r (.map (es.push { key := .int .i64 k, val := v, born := clk }) (clk + 1)) } := by
  unfold Instr.mapUpdate
  simp [run_underlying underM, Result.andThen, Go.MapKept.run_getObj_map hb, Go.MapKept.run_checkKey underI (show Go.MapKept.IsKey (.int .i64) (.int .i64 k) from rfl), Go.MapKept.run_findKey underI (find_none k _ ks 0 h.1 hk), Go.MapKept.run_setObj_map _ hb]
/-- the value of a key that is there -/
theorem run_upd_old (k : Int) (v : Value) {j : Nat} {u : Value} (hb : W.heap[r]? = some (.map es clk)) (h : Ents es ks vs) (hn : ks.Nodup) (hj : ks[j]? = some k) (hv : vs[j]? = some u) :
    (Instr.mapUpdate tyM (.map (some r)) (.int .i64 k) v).run Tryd.prog W = .ok () { W with heap := W.heap.setIfInBounds r (.map (es.modify j fun e => { e with key := .int .i64 k, val := v }) clk) } := by
  have hkey : (es[j]?).map (·.key) = some (.int .i64 k) := by
    have := congrArg (fun l => l[j]?) h.1
    simp only [List.getElem?_map, hj, Array.getElem?_toList, Option.map_some] at this
    exact this
  unfold Instr.mapUpdate
  simp [run_underlying underM, Result.andThen, Go.MapKept.run_getObj_map hb, Go.MapKept.run_checkKey underI (show Go.MapKept.IsKey (.int .i64) (.int .i64 k) from rfl), Go.MapKept.run_findKey underI (find_some k _ ks vs 0 j u h.1 h.2 hn hj hv), hkey, Go.MapKept.run_keyThatStays (show Go.MapKept.IsKey (.int .i64) (.int .i64 k) from rfl), Go.MapKept.run_setObj_map _ hb]
/-- a key struck out -/
theorem run_del (k : Int) (ty : TypeId) {j : Nat} {u : Value} (hb : W.heap[r]? = some (.map es clk)) (h : Ents es ks vs) (hn : ks.Nodup) (hj : ks[j]? = some k) (hv : vs[j]? = some u) :
    (Builtin.delete_ #[tyM, 3] ty #[.map (some r), .int .i64 k]).run Tryd.prog W = .ok (.tuple #[]) { W with heap := W.heap.setIfInBounds r (.map (es.eraseIdxIfInBounds j) clk) } := by
  unfold Builtin.delete_
  simp [run_underlying underM, Result.andThen, Go.MapKept.run_getObj_map hb, Go.MapKept.run_checkKey underI (show Go.MapKept.IsKey (.int .i64) (.int .i64 k) from rfl), Go.MapKept.run_findKey underI (find_some k _ ks vs 0 j u h.1 h.2 hn hj hv), Go.MapKept.run_setObj_map _ hb]
end
theorem Ents.push {es : Array MapEntry} {ks : List Int} {vs : List Value} (h : Ents es ks vs) (k : Int) (v : Value) (b : Nat) : Ents (es.push { key := .int .i64 k, val := v, born := b }) (ks ++ [k]) (vs ++ [v]) := by
  obtain ⟨h1, h2⟩ := h
  constructor <;> simp [h1, h2]
theorem map_erase {α β : Type} (f : α → β) : ∀ (l : List α) (j : Nat), (l.eraseIdx j).map f = (l.map f).eraseIdx j
  | [], _ => rfl
  | _ :: _, 0 => rfl
  | x :: l, j + 1 => by simp [map_erase f l j]
theorem Ents.erase {es : Array MapEntry} {ks : List Int} {vs : List Value} (h : Ents es ks vs) (j : Nat) : Ents (es.eraseIdxIfInBounds j) (ks.eraseIdx j) (vs.eraseIdx j) := by
  obtain ⟨h1, h2⟩ := h
  subst h2
  have e : (es.eraseIdxIfInBounds j).toList = es.toList.eraseIdx j := by simp
  constructor
  · rw [e, map_erase, h1, map_erase]
  · rw [e, map_erase]
theorem map_set {α β : Type} (f : α → β) : ∀ (l : List α) (j : Nat) (x : α), (l.set j x).map f = (l.map f).set j (f x)
  | [], _, _ => rfl
  | _ :: _, 0, _ => rfl
  | y :: l, j + 1, x => by simp [map_set f l j x]
theorem Ents.upd {es : Array MapEntry} {ks : List Int} {vs : List Value} (h : Ents es ks vs) {j : Nat} {k : Int} (hj : ks[j]? = some k) (v : Value) : Ents (es.modify j fun e => { e with key := .int .i64 k, val := v }) ks (vs.set j v) := by
  obtain ⟨h1, h2⟩ := h
  have hlen : es.toList.length = ks.length := by have := congrArg List.length h1; simpa using this
  have hjl := (List.getElem?_eq_some_iff.1 hj).1
  obtain ⟨x, hx⟩ : ∃ x, es.toList[j]? = some x := ⟨_, List.getElem?_eq_getElem (by omega)⟩
  have e : (es.modify j fun e => { e with key := .int .i64 k, val := v }).toList = es.toList.set j { x with key := .int .i64 k, val := v } := by
    rw [Array.toList_modify]
    apply List.ext_getElem?
    intro i
    rw [List.getElem?_modify, List.getElem?_set]
    have hjs : j < es.toList.length := by omega
    by_cases q : j = i
    · subst q; simp [hx]; simpa using hjs
    · simp [q]
  have hsk : (ks.map (fun k => Value.int .i64 k)).set j (.int .i64 k) = ks.map (fun k => Value.int .i64 k) := by
    rw [← map_set (fun k => Value.int .i64 k)]
    congr 1
    obtain ⟨hl, rfl⟩ := List.getElem?_eq_some_iff.1 hj
    exact List.set_getElem_self _
  constructor
  · rw [e, map_set, h1, hsk]
  · rw [e, map_set, h2]
end Go.Proofs.YtmgjcjacoegocaaDoor.Ar
