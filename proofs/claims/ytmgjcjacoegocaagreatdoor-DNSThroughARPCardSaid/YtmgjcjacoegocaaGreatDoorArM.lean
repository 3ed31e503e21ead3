/-
  Address resolution: the table, New, Send, Receive; messages encoded (several texts in one).
-/
import Derived.Test.YtmgjcjacoegocaaGreatDoorMapInt
import Derived.Test.YtmgjcjacoegocaaGreatDoorRows
import Derived.Test.YtmgjcjacoegocaaGreatDoorBase1
import Derived.Laws.StructEq
import Derived.RegionTactic
import Derived.LoopTactic
import Derived.Deep.Cut
import Derived.Deep.DeepCutAuto
import Derived.BigQuiet
import Derived.WalkMore
import Derived.WalkKit
import Derived.Deep.RegionHeld3
import Derived.Test.YtmgjcjacoegocaaGreatDoorHeld
import Derived.Deep.AppendLies
import Derived.Deep.RegionLawGrows
import Derived.OwnWalk
import Derived.Test.YtmgjcjacoegocaaGreatDoorShelf
import Derived.Test.YtmgjcjacoegocaaGreatDoorStore
import Derived.Maps.RangeRun
import Derived.Test.YtmgjcjacoegocaaGreatDoorBase2
import Derived.Test.YtmgjcjacoegocaaGreatDoorPlain
namespace Go.Proofs.YtmgjcjacoegocaaGreatDoor.Ar
set_option maxRecDepth 100000
open Go.RowKit Go.Proofs.YtmgjcjacoegocaaGreatDoor.Wire

/-- the entries of a map: keys and values in their order -/
def Ents (es : Array MapEntry) (ks : List Int) (vs : List Value) : Prop := es.toList.map (·.key) = ks.map (fun k => Value.int .i64 k) ∧ es.toList.map (·.val) = vs
theorem find_none (k : Int) : ∀ (l : List MapEntry) (ks : List Int) (i : Nat), l.map (·.key) = ks.map (fun k => Value.int .i64 k) → k ∉ ks → Instr.findNow (.int .i64) (.int .i64 k) l i = some none
  | [], _, _, _, _ => rfl
  | x :: l, ks, i, h, hn => by
    match ks, h, hn with
    | a :: ks, h, hn =>
      simp only [List.map_cons, List.cons.injEq] at h
      have hb : (k == a) = false := by rw [beq_eq_false_iff_ne]; exact fun e => hn (by simp [e])
      have e1 : Instr.findNow (.int .i64) (.int .i64 k) (x :: l) i = Instr.findNow (.int .i64) (.int .i64 k) l (i + 1) := by simp [Instr.findNow, Instr.sameNow, h.1, hb]
      rw [e1]
      exact find_none k l ks (i + 1) h.2 (fun q => hn (List.mem_cons_of_mem _ q))
theorem find_some (k : Int) : ∀ (l : List MapEntry) (ks : List Int) (vs : List Value) (i j : Nat) (v : Value), l.map (·.key) = ks.map (fun k => Value.int .i64 k) → l.map (·.val) = vs → ks.Nodup → ks[j]? = some k → vs[j]? = some v → Instr.findNow (.int .i64) (.int .i64 k) l i = some (some (i + j, v))
  | [], ks, _, _, j, _, h, _, _, hj, _ => by
    have : ks = [] := by simpa using h.symm
    subst this; simp at hj
  | x :: l, ks, vs, i, j, v, h, hv, hn, hj, hvj => by
    match ks, h, hn, hj with
    | a :: ks, h, hn, hj =>
      subst hv
      simp only [List.map_cons, List.cons.injEq] at h
      cases j with
      | zero =>
        have e : a = k := by simpa using hj
        subst e
        have e2 : x.val = v := by simpa using hvj
        subst e2
        simp [Instr.findNow, Instr.sameNow, h.1]
      | succ j =>
        have hmem : k ∈ ks := List.mem_of_getElem? (by simpa using hj)
        have hb : (k == a) = false := by
          rw [beq_eq_false_iff_ne]; rintro rfl
          exact (List.nodup_cons.1 hn).1 hmem
        have e1 : Instr.findNow (.int .i64) (.int .i64 k) (x :: l) i = Instr.findNow (.int .i64) (.int .i64 k) l (i + 1) := by simp [Instr.findNow, Instr.sameNow, h.1, hb]
        rw [e1, find_some k l ks _ (i + 1) j v h.2 rfl (List.nodup_cons.1 hn).2 (by simpa using hj) (by simpa using hvj)]
        congr 2; congr 1; omega
def tyM : TypeId := 165
theorem underM : Tryz.prog.underlying tyM = some (.map 3 169) := Tryz.underlying165
theorem zeroE (w : World) : (zeroValue 169).run Tryz.prog w = .ok .nilIface w := by kernel_rfl
theorem underI : Tryz.prog.underlying 3 = some (.int .i64) := Tryz.underlying3
section
variable {W : World} {r clk : Nat} {es : Array MapEntry} {ks : List Int} {vs : List Value}
/-- a look-up at the nil map -/
theorem run_look_nil (k : Int) : (Instr.lookup tyM (.map none) (.int .i64 k) false).run Tryz.prog W = .ok .nilIface W := by
  unfold Instr.lookup
  simp [run_underlying underM, Result.andThen, Go.MapKept.run_checkKey underI (show Go.MapKept.IsKey (.int .i64) (.int .i64 k) from rfl), Go.MapKept.run_findKey underI (show Instr.findNow (.int .i64) (.int .i64 k) [] 0 = some none from rfl)]
theorem run_look_none (k : Int) (hb : W.heap[r]? = some (.map es clk)) (h : Ents es ks vs) (hk : k ∉ ks) : (Instr.lookup tyM (.map (some r)) (.int .i64 k) false).run Tryz.prog W = .ok .nilIface W := by
  unfold Instr.lookup
  simp [run_underlying underM, Result.andThen, Go.MapKept.run_getObj_map hb, Go.MapKept.run_checkKey underI (show Go.MapKept.IsKey (.int .i64) (.int .i64 k) from rfl), Go.MapKept.run_findKey underI (find_none k _ ks 0 h.1 hk)]
theorem run_look_some (k : Int) {j : Nat} {v : Value} (hb : W.heap[r]? = some (.map es clk)) (h : Ents es ks vs) (hn : ks.Nodup) (hj : ks[j]? = some k) (hv : vs[j]? = some v) : (Instr.lookup tyM (.map (some r)) (.int .i64 k) false).run Tryz.prog W = .ok v W := by
  unfold Instr.lookup
  simp [run_underlying underM, Result.andThen, Go.MapKept.run_getObj_map hb, Go.MapKept.run_checkKey underI (show Go.MapKept.IsKey (.int .i64) (.int .i64 k) from rfl), Go.MapKept.run_findKey underI (find_some k _ ks vs 0 j v h.1 h.2 hn hj hv)]
/-- a new key -/
theorem run_upd_new (k : Int) (v : Value) (hb : W.heap[r]? = some (.map es clk)) (h : Ents es ks vs) (hk : k ∉ ks) :
    (Instr.mapUpdate tyM (.map (some r)) (.int .i64 k) v).run Tryz.prog W = .ok () { W with heap := W.heap.setIfInBounds r (.map (es.push { key := .int .i64 k, val := v, born := clk }) (clk + 1)) } := by
  unfold Instr.mapUpdate
  simp [run_underlying underM, Result.andThen, Go.MapKept.run_getObj_map hb, Go.MapKept.run_checkKey underI (show Go.MapKept.IsKey (.int .i64) (.int .i64 k) from rfl), Go.MapKept.run_findKey underI (find_none k _ ks 0 h.1 hk), Go.MapKept.run_setObj_map _ hb]
/-- the value of a key that is there -/
theorem run_upd_old (k : Int) (v : Value) {j : Nat} {u : Value} (hb : W.heap[r]? = some (.map es clk)) (h : Ents es ks vs) (hn : ks.Nodup) (hj : ks[j]? = some k) (hv : vs[j]? = some u) :
    (Instr.mapUpdate tyM (.map (some r)) (.int .i64 k) v).run Tryz.prog W = .ok () { W with heap := W.heap.setIfInBounds r (.map (es.modify j fun e => { e with key := .int .i64 k, val := v }) clk) } := by
  have hkey : (es[j]?).map (·.key) = some (.int .i64 k) := by
    have := congrArg (fun l => l[j]?) h.1
    simp only [List.getElem?_map, hj, Array.getElem?_toList, Option.map_some] at this
    exact this
  unfold Instr.mapUpdate
  simp [run_underlying underM, Result.andThen, Go.MapKept.run_getObj_map hb, Go.MapKept.run_checkKey underI (show Go.MapKept.IsKey (.int .i64) (.int .i64 k) from rfl), Go.MapKept.run_findKey underI (find_some k _ ks vs 0 j u h.1 h.2 hn hj hv), hkey, Go.MapKept.run_keyThatStays (show Go.MapKept.IsKey (.int .i64) (.int .i64 k) from rfl), Go.MapKept.run_setObj_map _ hb]
/-- a key struck out -/
theorem run_del (k : Int) (ty : TypeId) {j : Nat} {u : Value} (hb : W.heap[r]? = some (.map es clk)) (h : Ents es ks vs) (hn : ks.Nodup) (hj : ks[j]? = some k) (hv : vs[j]? = some u) :
    (Builtin.delete_ #[tyM, 3] ty #[.map (some r), .int .i64 k]).run Tryz.prog W = .ok (.tuple #[]) { W with heap := W.heap.setIfInBounds r (.map (es.eraseIdxIfInBounds j) clk) } := by
  unfold Builtin.delete_
  simp [run_underlying underM, Result.andThen, Go.MapKept.run_getObj_map hb, Go.MapKept.run_checkKey underI (show Go.MapKept.IsKey (.int .i64) (.int .i64 k) from rfl), Go.MapKept.run_findKey underI (find_some k _ ks vs 0 j u h.1 h.2 hn hj hv), Go.MapKept.run_setObj_map _ hb]
end
theorem Ents.push {es : Array MapEntry} {ks : List Int} {vs : List Value} (h : Ents es ks vs) (k : Int) (v : Value) (b : Nat) : Ents (es.push { key := .int .i64 k, val := v, born := b }) (ks ++ [k]) (vs ++ [v]) := by
  obtain ⟨h1, h2⟩ := h
  constructor <;> simp [h1, h2]
theorem map_erase {α β : Type} (f : α → β) : ∀ (l : List α) (j : Nat), (l.eraseIdx j).map f = (l.map f).eraseIdx j
  | [], _ => rfl
  | _ :: _, 0 => rfl
  | x :: l, j + 1 => by simp [map_erase f l j]
theorem Ents.erase {es : Array MapEntry} {ks : List Int} {vs : List Value} (h : Ents es ks vs) (j : Nat) : Ents (es.eraseIdxIfInBounds j) (ks.eraseIdx j) (vs.eraseIdx j) := by
  obtain ⟨h1, h2⟩ := h
  subst h2
  have e : (es.eraseIdxIfInBounds j).toList = es.toList.eraseIdx j := by simp
  constructor
  · rw [e, map_erase, h1, map_erase]
  · rw [e, map_erase]
theorem map_set {α β : Type} (f : α → β) : ∀ (l : List α) (j : Nat) (x : α), (l.set j x).map f = (l.map f).set j (f x)
  | [], _, _ => rfl
  | _ :: _, 0, _ => rfl
  | y :: l, j + 1, x => by simp [map_set f l j x]
theorem Ents.upd {es : Array MapEntry} {ks : List Int} {vs : List Value} (h : Ents es ks vs) {j : Nat} {k : Int} (hj : ks[j]? = some k) (v : Value) : Ents (es.modify j fun e => { e with key := .int .i64 k, val := v }) ks (vs.set j v) := by
  obtain ⟨h1, h2⟩ := h
  have hlen : es.toList.length = ks.length := by have := congrArg List.length h1; simpa using this
  have hjl := (List.getElem?_eq_some_iff.1 hj).1
  obtain ⟨x, hx⟩ : ∃ x, es.toList[j]? = some x := ⟨_, List.getElem?_eq_getElem (by omega)⟩
  have e : (es.modify j fun e => { e with key := .int .i64 k, val := v }).toList = es.toList.set j { x with key := .int .i64 k, val := v } := by
    rw [Array.toList_modify]
    apply List.ext_getElem?
    intro i
    rw [List.getElem?_modify, List.getElem?_set]
    have hjs : j < es.toList.length := by omega
    by_cases q : j = i
    · subst q; simp [hx]; simpa using hjs
    · simp [q]
  have hsk : (ks.map (fun k => Value.int .i64 k)).set j (.int .i64 k) = ks.map (fun k => Value.int .i64 k) := by
    rw [← map_set (fun k => Value.int .i64 k)]
    congr 1
    obtain ⟨hl, rfl⟩ := List.getElem?_eq_some_iff.1 hj
    exact List.set_getElem_self _
  constructor
  · rw [e, map_set, h1, hsk]
  · rw [e, map_set, h2]
end Go.Proofs.YtmgjcjacoegocaaGreatDoor.Ar

namespace Go.Proofs.YtmgjcjacoegocaaGreatDoor.Ar
set_option maxRecDepth 100000
open Go.RowKit Go.Proofs.YtmgjcjacoegocaaGreatDoor.Wire

def In64 (n : Int) : Prop := -9223372036854775808 ≤ n ∧ n ≤ 9223372036854775807
/-- an ARP message -/
structure Am where
  op : Int
  f : Int
  fm : Int
  t : Int
  tm : Int
deriving DecidableEq
def Am.ok (a : Am) : Prop := (1 ≤ a.f ∧ a.f < 4294967295) ∧ (1 ≤ a.t ∧ a.t < 4294967295) ∧ (1 ≤ a.fm ∧ a.fm ≤ 65534) ∧ (a.op = 1 ∧ a.tm = 0 ∨ a.op = 2 ∧ 1 ≤ a.tm ∧ a.tm ≤ 65534)
instance (a : Am) : Decidable a.ok := by unfold Am.ok; infer_instance
def Am.okB (a : Am) : Bool := decide a.ok
theorem Am.okB_iff (a : Am) : a.okB = true ↔ a.ok := by unfold Am.okB; exact decide_eq_true_iff
def Am.cells (a : Am) : List Value := [.int .i64 a.op, .int .i64 a.f, .int .i64 a.fm, .int .i64 a.t, .int .i64 a.tm]
def uniB (a : Int) : Bool := decide (1 ≤ a ∧ a < 4294967295)
def umacB (m : Int) : Bool := decide (1 ≤ m ∧ m ≤ 65534)
/-- a held packet -/
structure Hp where
  to_ : Int
  mac : Int
  s : ByteArray
def Hp.cells (p : Hp) : List Value := [.int .i64 p.to_, .int .i64 p.mac, .string p.s]

theorem uni_any (a : Int) (w : World) : Calls Tryz.prog 67 #[.int .i64 a] w fun e w' => e = .returned (.bool (uniB a)) ∧ w = w' := by
  go_enter Tryz.func67, Tryz.ntmps67
  go_wp2
  all_goals
    go_ret
    refine ⟨ret_bool ?_, rfl⟩
    unfold uniB
    rw [Bool.eq_iff_iff]; simp; try omega
theorem umac_any (a : Int) (w : World) : Calls Tryz.prog 68 #[.int .i64 a] w fun e w' => e = .returned (.bool (umacB a)) ∧ w = w' := by
  go_enter Tryz.func68, Tryz.ntmps68
  go_wp2
  all_goals
    go_ret
    refine ⟨ret_bool ?_, rfl⟩
    unfold umacB
    rw [Bool.eq_iff_iff]; simp; try omega
set_option maxHeartbeats 4000000 in
theorem valid_any (op f fm t tm : Int) (w : World) : Calls Tryz.prog 72 #[.agg #[.int .i64 op, .int .i64 f, .int .i64 fm, .int .i64 t, .int .i64 tm]] w fun e w' => e = .returned (.bool (Am.okB ⟨op, f, fm, t, tm⟩)) ∧ Below w.heap.size w w' := by
  have HU := Lib.hid uni_any; have HM := Lib.hid umac_any
  go_enter Tryz.func72, Tryz.ntmps72
  have e1 : Am.okB ⟨op, f, fm, t, tm⟩ = (uniB f && uniB t && umacB fm && ((op == 1) && (tm == 0) || (op == 2) && umacB tm)) := by
    rw [Bool.eq_iff_iff, Am.okB_iff]
    unfold Am.ok uniB umacB
    simp; try omega
  have HE := Lib.hid e1; clear e1
  obtain ⟨bf, hbf⟩ : ∃ b, uniB f = b := ⟨_, rfl⟩
  obtain ⟨bt, hbt⟩ : ∃ b, uniB t = b := ⟨_, rfl⟩
  obtain ⟨bm, hbm⟩ : ∃ b, umacB fm = b := ⟨_, rfl⟩
  obtain ⟨bn, hbn⟩ : ∃ b, umacB tm = b := ⟨_, rfl⟩
  have H1 : Hid (∀ W, Calls Tryz.prog 67 #[.int .i64 f] W fun e w' => e = .returned (.bool bf) ∧ W = w') := Lib.hid (fun W => hbf ▸ uni_any f W)
  have H2 : Hid (∀ W, Calls Tryz.prog 67 #[.int .i64 t] W fun e w' => e = .returned (.bool bt) ∧ W = w') := Lib.hid (fun W => hbt ▸ uni_any t W)
  have H3 : Hid (∀ W, Calls Tryz.prog 68 #[.int .i64 fm] W fun e w' => e = .returned (.bool bm) ∧ W = w') := Lib.hid (fun W => hbm ▸ umac_any fm W)
  have H4 : Hid (∀ W, Calls Tryz.prog 68 #[.int .i64 tm] W fun e w' => e = .returned (.bool bn) ∧ W = w') := Lib.hid (fun W => hbn ▸ umac_any tm W)
  rw [hbf, hbt, hbm, hbn] at HE
  clear HU HM hbf hbt hbm hbn
  cases bf <;> cases bt <;> cases bm <;> cases bn
  all_goals
    go_wp2_with (first | (go_at_call 67; (with_reducible refine (H1.out _).mono ?_); rintro e w' ⟨rfl, rfl⟩) | (go_at_call 67; (with_reducible refine (H2.out _).mono ?_); rintro e w' ⟨rfl, rfl⟩) | (go_at_call 68; (with_reducible refine (H3.out _).mono ?_); rintro e w' ⟨rfl, rfl⟩) | (go_at_call 68; (with_reducible refine (H4.out _).mono ?_); rintro e w' ⟨rfl, rfl⟩))
  all_goals
    go_ret
    refine ⟨ret_bool ?_, (Below.refl _ _).alloc (Nat.le_refl _) _⟩
    rw [HE.out]
    simp_all
end Go.Proofs.YtmgjcjacoegocaaGreatDoor.Ar

namespace Go.Proofs.YtmgjcjacoegocaaGreatDoor.Ar
set_option maxRecDepth 100000
open Go.RowKit Go.Proofs.YtmgjcjacoegocaaGreatDoor.Wire

theorem below_drewN {n : Nat} {a w : World} (h : Below n a w) (k : Nat) : Below n a (w.drewN k) := ⟨h.os, h.tape, h.output, h.size, h.block⟩
section
variable {α : Type}
theorem encs_length (k : Nat) (enc : α → List Value) (hk : ∀ x, (enc x).length = k) (l : List α) : (l.flatMap enc).length = l.length * k := by
  induction l with
  | nil => simp
  | cons a l ih => simp [ih, hk, Nat.succ_mul]; omega
theorem encs_at (k : Nat) (enc : α → List Value) (hk : ∀ x, (enc x).length = k) : ∀ (l : List α) (i r : Nat) (x : α), l[i]? = some x → r < k → (l.flatMap enc)[i * k + r]? = (enc x)[r]?
  | [], i, r, x, h, _ => by simp at h
  | y :: l, 0, r, x, h, hr => by
    simp at h; subst h
    rw [List.flatMap_cons, List.getElem?_append_left (by rw [hk]; omega)]; simp
  | y :: l, i + 1, r, x, h, hr => by
    rw [List.flatMap_cons, List.getElem?_append_right (by rw [hk, Nat.succ_mul]; omega)]
    have e : (i + 1) * k + r - (enc y).length = i * k + r := by rw [hk, Nat.succ_mul]; omega
    rw [e]
    exact encs_at k enc hk l i r x (by simpa using h) hr
/-- a row of elements of k cells each -/
def SRow (T : TypeId) (k : Nat) (enc : α → List Value) (W : World) (lo : Nat) (A : Option Addr) (c : Nat) (l : List α) : Prop := W.ownsRow lo T k (.slice A l.length c) l.length (l.flatMap enc)
variable {T : TypeId} {k : Nat} {enc : α → List Value} {W W' : World} {lo : Nat} {A : Option Addr} {c : Nat} {l : List α}
theorem SRow.addr (h : SRow T k enc W lo A c l) (hl : 0 < l.length) : ∃ g, A = some ⟨g, 0, none⟩ ∧ lo ≤ g := by
  rcases h.2 with ⟨e, h0⟩ | ⟨g, cap, cur, e, h1, -⟩
  · omega
  · injection e with e1 e2 e3
    exact ⟨g, e1, h1⟩
theorem SRow.cell (h : SRow T k enc W lo A c l) (hk : ∀ x, (enc x).length = k) {g : Nat} (hA : A = some ⟨g, 0, none⟩) {i : Nat} {x : α} (hi : l[i]? = some x) {r : Nat} {u : Value} (hr : r < k) (hu : (enc x)[r]? = some u) : W.cell? ⟨g, i * k + r, none⟩ = some u := by
  subst hA
  have := World.ownsRow.cells h rfl (i * k + r) u (by rw [encs_at k enc hk l i r x hi hr]; exact hu)
  have e : (⟨g, 0, none⟩ : Addr).add (i * k + r) = ⟨g, i * k + r, none⟩ := by unfold Addr.add; split <;> simp_all
  rw [e] at this; exact this
theorem SRow.kept (h : SRow T k enc W lo A c l) (hk : ∀ a, A = some a → W'.heap[a.block]? = W.heap[a.block]?) : SRow T k enc W' lo A c l := by
  refine ⟨h.1, ?_⟩
  rcases h.2 with q | ⟨g, cap, cur, e, q1, q2, q3⟩
  · exact .inl q
  · injection e with e1 e2 e3
    subst e1
    exact .inr ⟨g, cap, cur, by rw [e3], q1, (hk _ rfl).trans q2, q3⟩
theorem SRow.bk (h : SRow T k enc W lo A c l) {a : Addr} (e : A = some a) : lo ≤ a.block ∧ a.block < W.heap.size := by
  rcases h.2 with ⟨q, -⟩ | ⟨g, cap, cur, q, q1, q2, -⟩
  · injection q with q1; rw [q1] at e; cases e
  · injection q with q3; rw [q3] at e; cases e; exact ⟨q1, blk_lt q2⟩
theorem SRow.below (h : SRow T k enc W lo A c l) (hb : Below W.heap.size W W') : SRow T k enc W' lo A c l := h.kept fun _ e => hb.block _ (h.bk e).2
theorem SRow.mono (h : SRow T k enc W lo A c l) {lo' : Nat} (hl : lo' ≤ lo) : SRow T k enc W lo' A c l := by
  refine ⟨h.1, ?_⟩
  rcases h.2 with q | ⟨g, cap, cur, e, q1, q2⟩
  · exact .inl q
  · exact .inr ⟨g, cap, cur, e, Nat.le_trans hl q1, q2⟩
theorem SRow.nil (T : TypeId) (k : Nat) (enc : α → List Value) (W : World) (lo : Nat) : SRow T k enc W lo none 0 [] := ⟨by simp, .inl ⟨rfl, rfl⟩⟩
theorem SRow.cap (h : SRow T k enc W lo A c l) : l.length ≤ c := by
  rcases h.2 with ⟨e, h0⟩ | ⟨g, cap, cur, e, q1, q2, q3, q4, q5, q6⟩
  · omega
  · injection e with e1 e2 e3; omega
/-- a new block that holds the row -/
theorem SRow.new {g : Nat} (hlo : lo ≤ g) (hk : ∀ x, (enc x).length = k) {cur : Array Value} (h : W.heap[g]? = some (.cells cur T (0, 0))) (e : cur.toList = l.flatMap enc) (hl : l.length ≤ maxLen) : SRow T k enc W lo (some ⟨g, 0, none⟩) l.length l := by
  have hs : cur.size = l.length * k := by rw [← Array.length_toList, e, encs_length k enc hk]
  exact ⟨encs_length k enc hk l, .inr ⟨g, l.length, cur, rfl, hlo, h, Nat.le_refl _, hl, hs, by rw [← hs, ← Array.length_toList, List.take_length, e]⟩⟩
end
abbrev tyAm : TypeId := 79
abbrev tyHp : TypeId := 87
abbrev MRow (W : World) (lo : Nat) (A : Option Addr) (c : Nat) (l : List Am) : Prop := SRow 79 5 Am.cells W lo A c l
abbrev HRow (W : World) (lo : Nat) (A : Option Addr) (c : Nat) (l : List Hp) : Prop := SRow 87 3 Hp.cells W lo A c l
theorem amk (a : Am) : a.cells.length = 5 := rfl
theorem hpk (a : Hp) : a.cells.length = 3 := rfl
theorem MRow.cells {W : World} {lo g c : Nat} {l : List Am} (h : MRow W lo (some ⟨g, 0, none⟩) c l) {i : Nat} {p : Am} (hi : l[i]? = some p) :
    W.cell? ⟨g, i * 5, none⟩ = some (.int .i64 p.op) ∧ W.cell? ⟨g, i * 5 + 1, none⟩ = some (.int .i64 p.f) ∧ W.cell? ⟨g, i * 5 + 2, none⟩ = some (.int .i64 p.fm) ∧ W.cell? ⟨g, i * 5 + 3, none⟩ = some (.int .i64 p.t) ∧ W.cell? ⟨g, i * 5 + 4, none⟩ = some (.int .i64 p.tm) :=
  ⟨h.cell amk rfl hi (r := 0) (by omega) rfl, h.cell amk rfl hi (r := 1) (by omega) rfl, h.cell amk rfl hi (r := 2) (by omega) rfl, h.cell amk rfl hi (r := 3) (by omega) rfl, h.cell amk rfl hi (r := 4) (by omega) rfl⟩
theorem HRow.cells {W : World} {lo g c : Nat} {l : List Hp} (h : HRow W lo (some ⟨g, 0, none⟩) c l) {i : Nat} {p : Hp} (hi : l[i]? = some p) :
    W.cell? ⟨g, i * 3, none⟩ = some (.int .i64 p.to_) ∧ W.cell? ⟨g, i * 3 + 1, none⟩ = some (.int .i64 p.mac) ∧ W.cell? ⟨g, i * 3 + 2, none⟩ = some (.string p.s) :=
  ⟨h.cell hpk rfl hi (r := 0) (by omega) rfl, h.cell hpk rfl hi (r := 1) (by omega) rfl, h.cell hpk rfl hi (r := 2) (by omega) rfl⟩
def amEqB (p q : Am) : Bool := p.op == q.op && p.f == q.f && p.fm == q.fm && p.t == q.t && p.tm == q.tm
theorem amEqB_iff (p q : Am) : amEqB p q = true ↔ p = q := by
  obtain ⟨a, b, c, d, e⟩ := p; obtain ⟨a', b', c', d', e'⟩ := q
  simp [amEqB, and_assoc]
theorem eqAm (p q : Am) : ∀ w : World, (Op.equalIn 10000 79 (.agg #[.int .i64 p.op, .int .i64 p.f, .int .i64 p.fm, .int .i64 p.t, .int .i64 p.tm]) (.agg #[.int .i64 q.op, .int .i64 q.f, .int .i64 q.fm, .int .i64 q.t, .int .i64 q.tm])).run Tryz.prog w = .ok (amEqB p q) w := by
  intro w
  unfold amEqB
  go_simp
  by_cases h0 : p.op = q.op
  case neg => rw [if_neg h0]; simp [h0]
  rw [if_pos h0]
  by_cases h1 : p.f = q.f
  case neg => rw [if_neg h1]; simp [h1]
  rw [if_pos h1]
  by_cases h2 : p.fm = q.fm
  case neg => rw [if_neg h2]; simp [h2]
  rw [if_pos h2]
  by_cases h3 : p.t = q.t
  case neg => rw [if_neg h3]; simp [h3]
  rw [if_pos h3]
  by_cases h4 : p.tm = q.tm
  case neg => rw [if_neg h4]; simp [h4]
  rw [if_pos h4]
  simp [h0, h1, h2, h3, h4]
def hpEqB (p q : Hp) : Bool := p.to_ == q.to_ && p.mac == q.mac && p.s.toList == q.s.toList
theorem hpEqB_iff (p q : Hp) : hpEqB p q = true ↔ p = q := by
  obtain ⟨a, b, c⟩ := p; obtain ⟨a', b', c'⟩ := q
  simp only [hpEqB, Bool.and_eq_true, beq_iff_eq, Hp.mk.injEq, and_assoc]
  constructor
  · rintro ⟨h1, h2, h3⟩
    refine ⟨h1, h2, ?_⟩
    rw [ByteArray.toList_eq, ByteArray.toList_eq] at h3
    exact ByteArray.ext (Array.ext' h3)
  · rintro ⟨h1, h2, h3⟩
    exact ⟨h1, h2, by rw [h3]⟩
instance : DecidableEq Hp := fun p q => decidable_of_iff (hpEqB p q = true) (hpEqB_iff p q)
theorem eqHp (p q : Hp) : ∀ w : World, (Op.equalIn 10000 87 (.agg #[.int .i64 p.to_, .int .i64 p.mac, .string p.s]) (.agg #[.int .i64 q.to_, .int .i64 q.mac, .string q.s])).run Tryz.prog w = .ok (hpEqB p q) w := by
  intro w
  unfold hpEqB
  go_simp
  by_cases h0 : p.to_ = q.to_
  case neg => rw [if_neg h0]; simp [h0]
  rw [if_pos h0]
  by_cases h1 : p.mac = q.mac
  case neg => rw [if_neg h1]; simp [h1]
  rw [if_pos h1]
  by_cases h2 : p.s.toList = q.s.toList
  case neg => rw [if_neg h2]; simp [h2]
  rw [if_pos h2]
  simp [h0, h1, h2]
end Go.Proofs.YtmgjcjacoegocaaGreatDoor.Ar

namespace Go.Proofs.YtmgjcjacoegocaaGreatDoor.Ar
set_option maxRecDepth 100000
open Go.RowKit Go.Proofs.YtmgjcjacoegocaaGreatDoor.Wire

/-- blocks of S alone may change -/
structure Chg (S : Nat → Prop) (w w' : World) : Prop where
  os : w'.os = w.os
  tape : w'.tape = w.tape
  output : w'.output = w.output
  size : w.heap.size ≤ w'.heap.size
  block : ∀ k, k < w.heap.size → ¬ S k → w'.heap[k]? = w.heap[k]?
theorem Chg.refl (S : Nat → Prop) (w : World) : Chg S w w := ⟨rfl, rfl, rfl, Nat.le_refl _, fun _ _ _ => rfl⟩
theorem Chg.trans {S S' : Nat → Prop} {a b c : World} (h : Chg S a b) (k : Chg S' b c) (hs : ∀ q, S' q → S q ∨ a.heap.size ≤ q) : Chg S a c :=
  ⟨k.os.trans h.os, k.tape.trans h.tape, k.output.trans h.output, Nat.le_trans h.size k.size, fun q hq hn => (k.block q (Nat.lt_of_lt_of_le hq h.size) (fun r => (hs q r).elim hn (by omega))).trans (h.block q hq hn)⟩
theorem Chg.mono {S S' : Nat → Prop} {a b : World} (h : Chg S a b) (hs : ∀ q, S q → S' q) : Chg S' a b := ⟨h.os, h.tape, h.output, h.size, fun q hq hn => h.block q hq (fun r => hn (hs q r))⟩
theorem Chg.of_below {S : Nat → Prop} {a b : World} (h : Below a.heap.size a b) : Chg S a b := ⟨h.os, h.tape, h.output, h.size, fun q hq _ => h.block q hq⟩
theorem Chg.below {S : Nat → Prop} {a b c : World} (h : Chg S a b) (k : Below b.heap.size b c) : Chg S a c := h.trans (S' := fun _ => False) (Chg.of_below k) (fun _ q => q.elim)
theorem Chg.grown {S : Nat → Prop} {a b : World} {row : Option Nat} (h : a.grownBy b row) (hs : ∀ q, row = some q → S q) : Chg S a b := ⟨h.os, h.tape, h.output, h.size, fun q hq hn => h.block q hq (fun e => hn (hs q e.symm))⟩
theorem Chg.setCell {S : Nat → Prop} {a b : World} (h : Chg S a b) {p : Addr} (hp : S p.block ∨ a.heap.size ≤ p.block) (u : Value) : Chg S a (b.setCell p u) :=
  h.trans (S' := fun q => q = p.block) (Chg.grown (row := some p.block) (only_set (World.grownBy.refl b (some p.block)) (.inl rfl) u) (fun q e => by injection e with e; exact e.symm)) (fun q e => by subst e; exact hp)
theorem Chg.setObj {S : Nat → Prop} {a b : World} (h : Chg S a b) {r : Nat} (hr : S r ∨ a.heap.size ≤ r) (o : Obj) : Chg S a { b with heap := b.heap.setIfInBounds r o } :=
  h.trans (S' := fun q => q = r) ⟨rfl, rfl, rfl, by simp, fun q _ hn => by
    show (b.heap.setIfInBounds r o)[q]? = _
    rw [Array.getElem?_setIfInBounds_ne (fun e => hn e.symm)]⟩ (fun q e => by subst e; exact hr)

/-- what an entry says: incomplete (pending packets, number of requests, first, last), or resolved (MAC, since, used) -/
inductive Ev where
  | inc (held : List ByteArray) (sent first last : Int)
  | res (mac since used : Int)
/-- an entry with the blocks in which it lies -/
structure En where
  k : Int
  v : Ev
  eb : Nat
  Hb : Option Addr
  hc : Nat
abbrev strC (s : ByteArray) : List Value := [.string s]
abbrev TRow (W : World) (lo : Nat) (A : Option Addr) (c : Nat) (l : List ByteArray) : Prop := SRow 9 1 strC W lo A c l
def En.own (e : En) (q : Nat) : Prop := q = e.eb ∨ ∃ a, e.Hb = some a ∧ a.block = q
def En.okV (W : World) (eb : Nat) (Hb : Option Addr) (hc : Nat) : Ev → Prop
  | .inc held sent first last => W.heap[eb]? = some (.cells #[.slice Hb held.length hc, .int .i64 sent, .int .i64 first, .int .i64 last] 176) ∧ TRow W 0 Hb hc held ∧ (∀ a, Hb = some a → a.block ≠ eb) ∧ held.length ≤ 4 ∧ (0 ≤ sent ∧ sent ≤ 3) ∧ In64 first ∧ In64 last ∧ (∀ s ∈ held, s.size ≤ 1024)
  | .res mac since used => W.heap[eb]? = some (.cells #[.int .i64 mac, .int .i64 since, .int .i64 used] 172) ∧ Hb = none ∧ In64 since ∧ In64 used
def En.ok (W : World) (e : En) : Prop := En.okV W e.eb e.Hb e.hc e.v
def Ev.ty : Ev → TypeId
  | .inc .. => 173
  | .res .. => 170
def En.val (e : En) : Value := .iface e.v.ty (.pointer (some ⟨e.eb, 0, none⟩))
/-- the table's own fields -/
structure Tc where
  own : Int
  mac : Int
  ann : Bool
  at_ : Int
def TOwn (T : Nat) (m : Option Nat) (L : List En) (q : Nat) : Prop := q = T ∨ m = some q ∨ ∃ e ∈ L, e.own q
def Disj (e f : En) : Prop := ∀ q, e.own q → ¬ f.own q
theorem Disj.symm {e f : En} (h : Disj e f) : Disj f e := fun q a b => h q b a
structure Tab (W : World) (T : Nat) (m : Option Nat) (es : Array MapEntry) (clk : Nat) (c : Tc) (L : List En) : Prop where
  tab : W.heap[T]? = some (.cells #[.int .i64 c.own, .int .i64 c.mac, .map m, .bool c.ann, .int .i64 c.at_] 167)
  map : (m = none ∧ L = []) ∨ ∃ r, m = some r ∧ W.heap[r]? = some (.map es clk) ∧ r ≠ T
  ents : m ≠ none → Ents es (L.map (·.k)) (L.map En.val)
  nod : (L.map (·.k)).Nodup
  stamp : m ≠ none → (∀ x ∈ es.toList, x.born < clk) ∧ (es.toList.map (·.born)).Nodup
  ok : ∀ e ∈ L, e.ok W
  eo : ∀ e ∈ L, ∀ q, e.own q → q ≠ T ∧ m ≠ some q
  ee : L.Pairwise Disj
theorem okV_kept {W W' : World} {eb : Nat} {Hb : Option Addr} {hc : Nat} {v : Ev} (h : En.okV W eb Hb hc v) (hk : ∀ q, (q = eb ∨ ∃ a, Hb = some a ∧ a.block = q) → W'.heap[q]? = W.heap[q]?) : En.okV W' eb Hb hc v := by
  cases v with
  | inc held sent first last => exact ⟨(hk eb (.inl rfl)).trans h.1, h.2.1.kept (fun a e => hk _ (.inr ⟨a, e, rfl⟩)), h.2.2⟩
  | res mac since used => exact ⟨(hk eb (.inl rfl)).trans h.1, h.2⟩
theorem En.ok_kept {W W' : World} {e : En} (h : e.ok W) (hk : ∀ q, e.own q → W'.heap[q]? = W.heap[q]?) : e.ok W' := okV_kept h hk
theorem En.ok_lt {W : World} {e : En} (h : e.ok W) {q : Nat} (hq : e.own q) : q < W.heap.size := by
  obtain ⟨k, v, eb, Hb, hc⟩ := e
  cases v with
  | inc held sent first last =>
    rcases hq with rfl | ⟨a, e, rfl⟩
    · exact blk_lt h.1
    · exact (h.2.1.bk e).2
  | res mac since used =>
    rcases hq with rfl | ⟨a, e, rfl⟩
    · exact blk_lt h.1
    · have h2 := h.2.1; dsimp only at h2 e; rw [h2] at e; cases e
section
variable {W W' : World} {T : Nat} {m : Option Nat} {es : Array MapEntry} {clk : Nat} {c : Tc} {L : List En}
theorem Tab.kept (h : Tab W T m es clk c L) (hk : ∀ q, TOwn T m L q → W'.heap[q]? = W.heap[q]?) : Tab W' T m es clk c L :=
  ⟨(hk T (.inl rfl)).trans h.tab, h.map.imp id (fun ⟨r, h1, h2, h3⟩ => ⟨r, h1, (hk r (.inr (.inl h1))).trans h2, h3⟩), h.ents, h.nod, h.stamp, fun e he => En.ok_kept (h.ok e he) (fun q hq => hk q (.inr (.inr ⟨e, he, hq⟩))), h.eo, h.ee⟩
theorem Tab.lt (h : Tab W T m es clk c L) {q : Nat} (hq : TOwn T m L q) : q < W.heap.size := by
  rcases hq with rfl | hm | ⟨e, he, hq⟩
  · exact blk_lt h.tab
  · rcases h.map with ⟨h1, -⟩ | ⟨r, h1, h2, -⟩
    · rw [h1] at hm; cases hm
    · rw [h1] at hm; cases hm; exact blk_lt h2
  · exact En.ok_lt (h.ok e he) hq
theorem Tab.below (h : Tab W T m es clk c L) (hb : Below W.heap.size W W') : Tab W' T m es clk c L := h.kept (fun q hq => hb.block q (h.lt hq))
theorem Tab.chg {S : Nat → Prop} (h : Tab W T m es clk c L) (hc : Chg S W W') (hs : ∀ q, TOwn T m L q → ¬ S q) : Tab W' T m es clk c L := h.kept (fun q hq => hc.block q (h.lt hq) (hs q hq))
theorem Tab.drew (h : Tab W T m es clk c L) : Tab W.drew T m es clk c L := h.kept (fun _ _ => rfl)
theorem keys_at {e : En} {j : Nat} (hj : L[j]? = some e) : (L.map (·.k))[j]? = some e.k ∧ (L.map En.val)[j]? = some e.val := by simp [hj]
/-- the look-up of an address that has no entry -/
theorem Tab.look_none (h : Tab W T m es clk c L) (k : Int) (hk : k ∉ L.map (·.k)) : (Instr.lookup 165 (.map m) (.int .i64 k) false).run Tryz.prog W = .ok .nilIface W := by
  rcases h.map with ⟨h1, -⟩ | ⟨r, h1, h2, -⟩
  · subst h1; exact run_look_nil k
  · have he := h.ents (by rw [h1]; simp)
    subst h1; exact run_look_none k h2 he hk
theorem Tab.look_some (h : Tab W T m es clk c L) {e : En} {j : Nat} (hj : L[j]? = some e) : (Instr.lookup 165 (.map m) (.int .i64 e.k) false).run Tryz.prog W = .ok e.val W := by
  rcases h.map with ⟨-, h1⟩ | ⟨r, h1, h2, -⟩
  · subst h1; simp at hj
  · have he := h.ents (by rw [h1]; simp)
    subst h1; exact run_look_some e.k h2 he h.nod (keys_at hj).1 (keys_at hj).2
theorem pairwise_set {L : List En} (h : L.Pairwise Disj) {i : Nat} {e' : En} (hd : ∀ j f, L[j]? = some f → j ≠ i → Disj f e') : (L.set i e').Pairwise Disj := by
  rw [List.pairwise_iff_getElem] at h ⊢
  intro a b ha hb hab
  simp only [List.length_set] at ha hb
  rw [List.getElem_set, List.getElem_set]
  by_cases h1 : i = a
  · rw [if_pos h1, if_neg (by omega)]
    exact (hd b _ (List.getElem?_eq_getElem hb) (by omega)).symm
  · rw [if_neg h1]
    by_cases h2 : i = b
    · rw [if_pos h2]; exact hd a _ (List.getElem?_eq_getElem ha) (by omega)
    · rw [if_neg h2]; exact h a b ha hb hab
theorem disj_at (h : L.Pairwise Disj) {i j : Nat} {e f : En} (hi : L[i]? = some e) (hj : L[j]? = some f) (hne : i ≠ j) : Disj e f := by
  rw [List.pairwise_iff_getElem] at h
  obtain ⟨hi', rfl⟩ := List.getElem?_eq_some_iff.1 hi
  obtain ⟨hj', rfl⟩ := List.getElem?_eq_some_iff.1 hj
  rcases Nat.lt_or_ge i j with q | q
  · exact h i j hi' hj' q
  · exact (h j i hj' hi' (by omega)).symm
theorem mem_set {L : List En} {i : Nat} {e' f : En} (h : f ∈ L.set i e') : f = e' ∨ ∃ j, j ≠ i ∧ L[j]? = some f := by
  obtain ⟨j, hj⟩ := List.getElem?_of_mem h
  rw [List.getElem?_set] at hj
  by_cases hij : i = j
  · rw [if_pos hij] at hj
    split at hj
    · exact .inl (Option.some.inj hj).symm
    · cases hj
  · rw [if_neg hij] at hj
    exact .inr ⟨j, fun q => hij q.symm, hj⟩
theorem keys_set {i : Nat} {e e' : En} (hi : L[i]? = some e) (hk : e'.k = e.k) : (L.set i e').map (·.k) = L.map (·.k) := by
  rw [List.map_set, hk]
  obtain ⟨hl, rfl⟩ := List.getElem?_eq_some_iff.1 hi
  have : (L.map (·.k))[i]'(by simpa using hl) = L[i].k := by simp
  rw [← this]; exact List.set_getElem_self _
/-- an entry is changed where it lies (own blocks S, or new ones) -/
theorem Tab.setE {S : Nat → Prop} (h : Tab W T m es clk c L) {i : Nat} {e e' : En} (hi : L[i]? = some e) (hk : e'.k = e.k) (hv : e'.val = e.val) (hok : e'.ok W') (hc : Chg S W W') (hS : ∀ q, S q → e.own q) (hown : ∀ q, e'.own q → e.own q ∨ W.heap.size ≤ q) :
    Tab W' T m es clk c (L.set i e') ∧ (∀ q, TOwn T m (L.set i e') q → TOwn T m L q ∨ W.heap.size ≤ q) := by
  have hmem : e ∈ L := List.mem_of_getElem? hi
  have hT := h.eo e hmem
  have hkeys := keys_set hi hk
  have hvals : (L.set i e').map En.val = L.map En.val := by
    rw [List.map_set, hv]
    obtain ⟨hl, rfl⟩ := List.getElem?_eq_some_iff.1 hi
    have : (L.map En.val)[i]'(by simpa using hl) = L[i].val := by simp
    rw [← this]; exact List.set_getElem_self _
  have keep : ∀ q, q < W.heap.size → ¬ e.own q → W'.heap[q]? = W.heap[q]? := fun q hl hn => hc.block q hl (fun r => hn (hS q r))
  have hil : i < L.length := (List.getElem?_eq_some_iff.1 hi).1
  refine ⟨⟨?_, ?_, by rw [hkeys, hvals]; exact h.ents, by rw [hkeys]; exact h.nod, h.stamp, ?_, ?_, ?_⟩, ?_⟩
  · rw [keep T (h.lt (.inl rfl)) (fun q => (hT T q).1 rfl)]; exact h.tab
  · rcases h.map with ⟨-, h1⟩ | ⟨r, h1, h2, h3⟩
    · subst h1; simp at hi
    · exact .inr ⟨r, h1, by rw [keep r (h.lt (.inr (.inl h1))) (fun q => (hT r q).2 h1)]; exact h2, h3⟩
  · intro f hf
    rcases mem_set hf with rfl | ⟨j, hj, hfj⟩
    · exact hok
    · have hok := h.ok f (List.mem_of_getElem? hfj)
      exact En.ok_kept hok (fun q hq => keep q (En.ok_lt hok hq) (disj_at h.ee hfj hi hj q hq))
  · intro f hf q hq
    rcases mem_set hf with rfl | ⟨j, hj, hfj⟩
    · rcases hown q hq with r | r
      · exact hT q r
      · exact ⟨fun s => by have := h.lt (.inl rfl : TOwn T m L T); omega, fun s => by have := h.lt (.inr (.inl s) : TOwn T m L q); omega⟩
    · exact h.eo f (List.mem_of_getElem? hfj) q hq
  · refine pairwise_set h.ee (fun j f hj hne q hq hq' => ?_)
    rcases hown q hq' with r | r
    · exact disj_at h.ee hj hi hne q hq r
    · have := En.ok_lt (h.ok f (List.mem_of_getElem? hj)) hq; omega
  · rintro q (r | r | ⟨f, hf, r⟩)
    · exact .inl (.inl r)
    · exact .inl (.inr (.inl r))
    · rcases mem_set hf with rfl | ⟨j, hj, hfj⟩
      · exact (hown q r).imp (fun s => .inr (.inr ⟨e, hmem, s⟩)) id
      · exact .inl (.inr (.inr ⟨f, List.mem_of_getElem? hfj, r⟩))
/-- a new entry -/
theorem Tab.push {r : Nat} (h : Tab W T (some r) es clk c L) {e : En} (hk : e.k ∉ L.map (·.k)) (hok : e.ok W) (hnew : ∀ q, e.own q → ¬ TOwn T (some r) L q) :
    Tab { W with heap := W.heap.setIfInBounds r (.map (es.push { key := .int .i64 e.k, val := e.val, born := clk }) (clk + 1)) } T (some r) (es.push { key := .int .i64 e.k, val := e.val, born := clk }) (clk + 1) c (L ++ [e]) := by
  obtain ⟨hr, hrT⟩ : W.heap[r]? = some (.map es clk) ∧ r ≠ T := by
    rcases h.map with ⟨q, -⟩ | ⟨r', q, h2, h3⟩
    · cases q
    · cases q; exact ⟨h2, h3⟩
  have hs := h.stamp (by simp)
  refine ⟨block_setObj h.tab (fun q => hrT q.symm), .inr ⟨r, rfl, block_setObj_same hr, hrT⟩, fun _ => ?_, ?_, fun _ => ⟨?_, ?_⟩, ?_, ?_, ?_⟩
  · have := (h.ents (by simp)).push e.k e.val clk
    simpa using this
  · rw [List.map_append, List.nodup_append]
    refine ⟨h.nod, by simp, fun a ha b hb => ?_⟩
    simp at hb; subst hb; rintro rfl; exact hk ha
  · intro x hx
    rw [Array.toList_push, List.mem_append] at hx
    rcases hx with hx | hx
    · have := hs.1 x hx; omega
    · simp at hx; subst hx; simp
  · rw [Array.toList_push, List.map_append, List.nodup_append]
    refine ⟨hs.2, by simp, fun a ha b hb => ?_⟩
    obtain ⟨x, hx, rfl⟩ := List.mem_map.1 ha
    have := hs.1 x hx
    simp at hb; subst hb; omega
  · intro f hf
    have hof : ∀ q, f.own q → q ≠ r := by
      intro q hq e1; subst e1
      rcases List.mem_append.1 hf with hf | hf
      · exact (h.eo f hf q hq).2 rfl
      · simp at hf; subst hf; exact hnew q hq (.inr (.inl rfl))
    have hfo : f.ok W := by
      rcases List.mem_append.1 hf with hf | hf
      · exact h.ok f hf
      · simp at hf; subst hf; exact hok
    exact En.ok_kept hfo (fun q hq => by
      show (W.heap.setIfInBounds r _)[q]? = _
      rw [Array.getElem?_setIfInBounds_ne (fun e => hof q hq e.symm)])
  · intro f hf q hq
    rcases List.mem_append.1 hf with hf | hf
    · exact h.eo f hf q hq
    · simp at hf; subst hf
      exact ⟨fun e => hnew q hq (.inl e), fun e => hnew q hq (.inr (.inl e))⟩
  · rw [List.pairwise_append]
    refine ⟨h.ee, List.pairwise_singleton _ _, fun a ha b hb q hq hq' => ?_⟩
    simp at hb; subst hb
    exact hnew q hq' (.inr (.inr ⟨a, ha, hq⟩))
/-- the value of an address that is there is set anew: another block -/
theorem Tab.upd {r : Nat} (h : Tab W T (some r) es clk c L) {i : Nat} {e e' : En} (hi : L[i]? = some e) (hk : e'.k = e.k) (hok : e'.ok W) (hnew : ∀ q, e'.own q → ¬ TOwn T (some r) L q) :
    Tab { W with heap := W.heap.setIfInBounds r (.map (es.modify i fun x => { x with key := .int .i64 e.k, val := e'.val }) clk) } T (some r) (es.modify i fun x => { x with key := .int .i64 e.k, val := e'.val }) clk c (L.set i e') := by
  obtain ⟨hr, hrT⟩ : W.heap[r]? = some (.map es clk) ∧ r ≠ T := by
    rcases h.map with ⟨q, -⟩ | ⟨r', q, h2, h3⟩
    · cases q
    · cases q; exact ⟨h2, h3⟩
  have hs := h.stamp (by simp)
  have hborn : (es.modify i fun x => { x with key := .int .i64 e.k, val := e'.val }).toList.map (·.born) = es.toList.map (·.born) := by
    rw [Array.toList_modify]
    apply List.ext_getElem?
    intro j
    simp only [List.getElem?_map, List.getElem?_modify]
    by_cases q : i = j
    · simp [q]; cases es[j]? <;> rfl
    · simp [q]
  refine ⟨block_setObj h.tab (fun q => hrT q.symm), .inr ⟨r, rfl, block_setObj_same hr, hrT⟩, fun _ => ?_, ?_, fun _ => ⟨?_, ?_⟩, ?_, ?_, ?_⟩
  · rw [keys_set hi hk, List.map_set]
    exact (h.ents (by simp)).upd (keys_at hi).1 _
  · rw [keys_set hi hk]; exact h.nod
  · intro x hx
    have : x.born ∈ es.toList.map (·.born) := by rw [← hborn]; exact List.mem_map_of_mem hx
    obtain ⟨y, hy, e1⟩ := List.mem_map.1 this
    rw [← e1]; exact hs.1 y hy
  · rw [hborn]; exact hs.2
  · intro f hf
    have hfo : f.ok W ∧ ∀ q, f.own q → q ≠ r := by
      rcases mem_set hf with rfl | ⟨j, hj, hfj⟩
      · exact ⟨hok, fun q hq e1 => hnew q hq (.inr (.inl (by rw [e1])))⟩
      · exact ⟨h.ok f (List.mem_of_getElem? hfj), fun q hq e1 => (h.eo f (List.mem_of_getElem? hfj) q hq).2 (by rw [e1])⟩
    exact En.ok_kept hfo.1 (fun q hq => by
      show (W.heap.setIfInBounds r _)[q]? = _
      rw [Array.getElem?_setIfInBounds_ne (fun e => hfo.2 q hq e.symm)])
  · intro f hf q hq
    rcases mem_set hf with rfl | ⟨j, hj, hfj⟩
    · exact ⟨fun e => hnew q hq (.inl e), fun e => hnew q hq (.inr (.inl e))⟩
    · exact h.eo f (List.mem_of_getElem? hfj) q hq
  · exact pairwise_set h.ee (fun j f hj _ q hq hq' => hnew q hq' (.inr (.inr ⟨f, List.mem_of_getElem? hj, hq⟩)))
/-- an entry is struck out -/
theorem Tab.del {r : Nat} (h : Tab W T (some r) es clk c L) (i : Nat) :
    Tab { W with heap := W.heap.setIfInBounds r (.map (es.eraseIdxIfInBounds i) clk) } T (some r) (es.eraseIdxIfInBounds i) clk c (L.eraseIdx i) := by
  obtain ⟨hr, hrT⟩ : W.heap[r]? = some (.map es clk) ∧ r ≠ T := by
    rcases h.map with ⟨q, -⟩ | ⟨r', q, h2, h3⟩
    · cases q
    · cases q; exact ⟨h2, h3⟩
  have hs := h.stamp (by simp)
  have e0 : (es.eraseIdxIfInBounds i).toList = es.toList.eraseIdx i := by simp
  have hsub : (L.eraseIdx i).Sublist L := List.eraseIdx_sublist _ _
  refine ⟨block_setObj h.tab (fun q => hrT q.symm), .inr ⟨r, rfl, block_setObj_same hr, hrT⟩, fun _ => ?_, ?_, fun _ => ⟨?_, ?_⟩, ?_, ?_, ?_⟩
  · rw [map_erase, map_erase]; exact (h.ents (by simp)).erase i
  · exact h.nod.sublist (hsub.map _)
  · intro x hx
    rw [e0] at hx
    exact hs.1 x (List.mem_of_mem_eraseIdx hx)
  · rw [e0]
    exact hs.2.sublist ((List.eraseIdx_sublist _ _).map _)
  · intro f hf
    have hf := hsub.subset hf
    exact En.ok_kept (h.ok f hf) (fun q hq => by
      show (W.heap.setIfInBounds r _)[q]? = _
      rw [Array.getElem?_setIfInBounds_ne (fun e => (h.eo f hf q hq).2 (by rw [e]))])
  · exact fun f hf => h.eo f (hsub.subset hf)
  · exact h.ee.sublist hsub
/-- the table's own fields, or its map, are set anew -/
theorem Tab.own (h : Tab W T m es clk c L) {c' : Tc} (hc : Chg (fun q => q = T) W W') (ht : W'.heap[T]? = some (.cells #[.int .i64 c'.own, .int .i64 c'.mac, .map m, .bool c'.ann, .int .i64 c'.at_] 167)) : Tab W' T m es clk c' L := by
  have keep : ∀ q, q < W.heap.size → q ≠ T → W'.heap[q]? = W.heap[q]? := fun q hl hn => hc.block q hl hn
  refine ⟨ht, h.map.imp id (fun ⟨r, h1, h2, h3⟩ => ⟨r, h1, (keep r (blk_lt h2) h3).trans h2, h3⟩), h.ents, h.nod, h.stamp, fun e he => ?_, h.eo, h.ee⟩
  exact En.ok_kept (h.ok e he) (fun q hq => keep q (En.ok_lt (h.ok e he) hq) (h.eo e he q hq).1)
end
end Go.Proofs.YtmgjcjacoegocaaGreatDoor.Ar

namespace Go.Proofs.YtmgjcjacoegocaaGreatDoor.Ar
set_option maxRecDepth 100000
open Go.RowKit Go.Proofs.YtmgjcjacoegocaaGreatDoor.Wire

def agedB (now at_ span : Int) : Bool := decide (at_ ≤ now ∧ span ≤ now - at_)
theorem age_eq (now st : Int) (h1 : In64 now) (h2 : In64 st) (h : st ≤ now) : IntKind.u64.wrap (IntKind.u64.wrap now - IntKind.u64.wrap st) = now - st := by
  unfold In64 at *
  simp only [IntKind.wrap_u64]; omega
theorem aged_any (now at_ span : Int) (h1 : In64 now) (h2 : In64 at_) (w : World) : Calls Tryz.prog 107 #[.int .i64 now, .int .i64 at_, .int .u64 span] w fun e w' => e = .returned (.bool (agedB now at_ span)) ∧ w = w' := by
  by_cases h : at_ ≤ now
  · have e := age_eq now at_ h1 h2 h
    have d : decide (at_ ≤ now) = true := decide_eq_true h
    clear h1 h2
    go_enter Tryz.func107, Tryz.ntmps107
    go_wp2_with fail
    all_goals
      go_ret
      refine ⟨ret_bool ?_, rfl⟩
      unfold agedB
      rw [Bool.eq_iff_iff]; simp; try omega
  · have d : decide (at_ ≤ now) = false := decide_eq_false h
    go_enter Tryz.func107, Tryz.ntmps107
    go_wp2_with fail
    all_goals
      go_ret
      refine ⟨ret_bool ?_, rfl⟩
      unfold agedB
      symm; exact decide_eq_false (fun q => by omega)
theorem cellsT {W : World} {T : Nat} {m : Option Nat} {es : Array MapEntry} {clk : Nat} {c : Tc} {L : List En} (h : Tab W T m es clk c L) :
    W.cell? ⟨T, 0, none⟩ = some (.int .i64 c.own) ∧ W.cell? ⟨T, 1, none⟩ = some (.int .i64 c.mac) ∧ W.cell? ⟨T, 2, none⟩ = some (.map m) ∧ W.cell? ⟨T, 3, none⟩ = some (.bool c.ann) ∧ W.cell? ⟨T, 4, none⟩ = some (.int .i64 c.at_) := (cells5 h.tab).1
set_option maxHeartbeats 4000000 in
theorem request_any (T : Nat) (m : Option Nat) (es : Array MapEntry) (clk : Nat) (c : Tc) (L : List En) (to_ : Int) (w : World) (h : Tab w T m es clk c L) :
    Calls Tryz.prog 71 #[.pointer (some ⟨T, 0, none⟩), .int .i64 to_] w fun e w' => e = .returned (.agg #[.int .i64 1, .int .i64 c.own, .int .i64 c.mac, .int .i64 to_, .int .i64 0]) ∧ Below w.heap.size w w' := by
  obtain ⟨q0, q1, -⟩ := cellsT h
  have lt := blk_lt h.tab
  clear h
  go_enter Tryz.func71, Tryz.ntmps71
  go_upto_region 1 with fail
  go_region
  all_goals
    have HZ := Lib.hid (alloc_new w (.cells #[.int .i64 1, .int .i64 c.own, .int .i64 c.mac, .int .i64 to_, .int .i64 0] 79))
    go_wp2_with fail
    refine bodyPost_ret (v := .agg #[.int .i64 1, .int .i64 c.own, .int .i64 c.mac, .int .i64 to_, .int .i64 0]) (res_cell1 Tryz.results71 (by exact HZ.out) rfl Tryz.underlying79 rfl (by kernel_rfl)) rfl ?_
    exact ⟨rfl, (below_alloc (Below.refl _ _)).drew⟩
theorem new_any (own mac : Int) (w : World) : Calls Tryz.prog 21 #[.int .i64 own, .int .i64 mac] w fun e w' =>
    (uniB own = true ∧ umacB mac = true ∧ e = .returned (.tuple #[.pointer (some ⟨w.heap.size, 0, none⟩), .int .i64 0]) ∧ w' = w.alloc (.cells #[.int .i64 own, .int .i64 mac, .map none, .bool false, .int .i64 0] 167)) ∨
    ((uniB own = false ∨ umacB mac = false) ∧ e = .returned (.tuple #[.pointer none, .int .i64 50]) ∧ w = w') := by
  have H1 := Lib.hid (uni_any own); have H2 := Lib.hid (umac_any mac)
  generalize uniB own = b1 at *
  generalize umacB mac = b2 at *
  go_enter Tryz.func21, Tryz.ntmps21
  cases b1 <;> cases b2
  all_goals
    go_wp2_with (first | (go_at_call 67; (with_reducible refine (H1.out _).mono ?_); rintro e w' ⟨rfl, rfl⟩) | (go_at_call 68; (with_reducible refine (H2.out _).mono ?_); rintro e w' ⟨rfl, rfl⟩))
  all_goals
    go_ret2
    first | exact ⟨rfl, rfl⟩ | exact .inl ⟨rfl, rfl, rfl, rfl⟩ | exact .inr ⟨.inl rfl, rfl, rfl⟩ | exact .inr ⟨.inr rfl, rfl, rfl⟩
/-- which kind of entry is it? -/
theorem ta_rr (v : Value) (w : World) : (Instr.typeAssert (.iface 170 v) 169 170 true).run Tryz.prog w = .ok (.tuple #[v, .bool true]) w := by kernel_rfl
theorem ta_ri (v : Value) (w : World) : (Instr.typeAssert (.iface 173 v) 169 170 true).run Tryz.prog w = .ok (.tuple #[.pointer none, .bool false]) w := by kernel_rfl
theorem ta_rn (w : World) : (Instr.typeAssert .nilIface 169 170 true).run Tryz.prog w = .ok (.tuple #[.pointer none, .bool false]) w := by kernel_rfl
theorem ta_ii (v : Value) (w : World) : (Instr.typeAssert (.iface 173 v) 169 173 true).run Tryz.prog w = .ok (.tuple #[v, .bool true]) w := by kernel_rfl
theorem ta_ir (v : Value) (w : World) : (Instr.typeAssert (.iface 170 v) 169 173 true).run Tryz.prog w = .ok (.tuple #[.pointer none, .bool false]) w := by kernel_rfl
theorem ta_in (w : World) : (Instr.typeAssert .nilIface 169 173 true).run Tryz.prog w = .ok (.tuple #[.pointer none, .bool false]) w := by kernel_rfl
theorem find_key {L : List En} (hn : (L.map (·.k)).Nodup) {j : Nat} {x : En} (hj : L[j]? = some x) : L.find? (fun y => decide (y.k = x.k)) = some x := by
  obtain ⟨hl, rfl⟩ := List.getElem?_eq_some_iff.1 hj
  rw [List.find?_eq_some_iff_getElem]
  refine ⟨by simp, j, hl, rfl, fun i hi => ?_⟩
  have := (List.pairwise_iff_getElem.1 hn) i j (by simp; omega) (by simpa using hl) hi
  simpa using this
/-- what Known answers -/
def knownV (v : Option Ev) : Value := match v with | some (.res mac _ _) => .tuple #[.int .i64 mac, .bool true] | _ => .tuple #[.int .i64 0, .bool false]
end Go.Proofs.YtmgjcjacoegocaaGreatDoor.Ar

namespace Go.Proofs.YtmgjcjacoegocaaGreatDoor.Ar
set_option maxRecDepth 100000
open Go.RowKit Go.Proofs.YtmgjcjacoegocaaGreatDoor.Wire

theorem infoAm : (Tryz.prog.info? 79).map (fun i => (i.zero, i.size, i.bytes)) = some (some (.agg #[.int .i64 0, .int .i64 0, .int .i64 0, .int .i64 0, .int .i64 0]), 5, 40) := by kernel_rfl
theorem infoHp : (Tryz.prog.info? 87).map (fun i => (i.zero, i.size, i.bytes)) = some (some (.agg #[.int .i64 0, .int .i64 0, .string ⟨#[]⟩]), 3, 32) := by kernel_rfl
theorem infoStr : (Tryz.prog.info? 9).map (fun i => (i.zero, i.size, i.bytes)) = some (some (.string ⟨#[]⟩), 1, 16) := by kernel_rfl
def BK (A : Option Addr) (q : Nat) : Prop := ∃ a, A = some a ∧ a.block = q
theorem ob_bk {D : Option Addr} {n d k : Nat} (e : Value.ownBlock (.slice D n d) = some k) : BK D k := by
  cases D with
  | none => cases e
  | some a => exact ⟨a, rfl, by simpa [Value.ownBlock] using e⟩
theorem SRow.bk' {α : Type} {T : TypeId} {k : Nat} {enc : α → List Value} {W : World} {lo : Nat} {A : Option Addr} {c : Nat} {l : List α} (h : SRow T k enc W lo A c l) {q : Nat} (hq : BK A q) : lo ≤ q ∧ q < W.heap.size := by
  obtain ⟨a, e, rfl⟩ := hq
  exact h.bk e
/-- the row behind an append of one element -/
theorem SRow.app {α : Type} {T : TypeId} {k : Nat} {enc : α → List Value} {W' : World} {lo g cap : Nat} {l : List α} {x : α} (ho : W'.ownsRow lo T k (.slice (some ⟨g, 0, none⟩) (l.length + 1) cap) (l.length + 1) (l.flatMap enc ++ enc x)) : SRow T k enc W' lo (some ⟨g, 0, none⟩) cap (l ++ [x]) := by
  unfold SRow
  have e1 : (l ++ [x]).length = l.length + 1 := by simp
  have e2 : (l ++ [x]).flatMap enc = l.flatMap enc ++ enc x := by simp
  rw [e1, e2]; exact ho
set_option maxHeartbeats 4000000 in
theorem release_any (eb : Nat) (Hb : Option Addr) (hc : Nat) (held : List ByteArray) (sent first last to_ mac : Int) (w : World)
    (h0 : w.heap[eb]? = some (.cells #[.slice Hb held.length hc, .int .i64 sent, .int .i64 first, .int .i64 last] 176)) (hr : TRow w 0 Hb hc held) (hl : held.length ≤ 1000) :
    Calls Tryz.prog 76 #[.pointer (some ⟨eb, 0, none⟩), .int .i64 to_, .int .i64 mac] w fun e w' => (∃ B c, e = .returned (.slice B held.length c) ∧ HRow w' w.heap.size B c (held.map fun s => (⟨to_, mac, s⟩ : Hp))) ∧ Below w.heap.size w w' := by
  obtain ⟨i0, hi, hz0, hz1, hz2⟩ := info_parts infoHp
  have HI := Lib.hid hi; have HZ0 := Lib.hid hz0; have HZ1 := Lib.hid hz1; have HZ2 := Lib.hid hz2
  obtain ⟨N, hN⟩ : ∃ N, held.length = N := ⟨_, rfl⟩
  obtain ⟨q0, -, -, -⟩ := (cells4 h0).1
  rw [hN] at q0 hl
  have HR := Lib.hid hr; have HN := Lib.hid hN
  rw [hN]
  clear hi hz0 hz1 hz2 h0 hr hN
  go_enter Tryz.func76, Tryz.ntmps76
  go_wp2_with fail
  go_loopw [7, 15] (fun o i wr => ∃ (k : Nat) (A : Option Addr) (c : Nat), k ≤ N ∧ i = .int .i64 (k : Int) ∧ o = .slice A k c ∧ HRow wr w.heap.size A c ((held.take k).map fun s => (⟨to_, mac, s⟩ : Hp)) ∧ Below w.heap.size w wr) (fun _ i _ => N - (Go.RowKit.intOf i).toNat)
  case atStart => exact ⟨0, none, 0, Nat.zero_le _, rfl, rfl, SRow.nil _ _ _ _ _, Below.refl _ _⟩
  case round =>
    obtain ⟨k, A, c, hk, rfl, rfl, hO, hB⟩ := hrel
    have HO := Lib.hid hO; have HB := Lib.hid hB; clear hO hB
    obtain ⟨wx, rfl⟩ : ∃ wo : World, wo = wr := ⟨_, rfl⟩
    by_cases hlt : k < N
    · have hkl : decide ((k : Int) < (N : Int)) = true := decide_eq_true (by omega)
      have hk0 : (0 : Int) ≤ (k : Int) := by omega
      have hk1 : (k : Int) < (N : Int) := by omega
      obtain ⟨s, hs⟩ : ∃ s, held[k]? = some s := ⟨_, List.getElem?_eq_getElem (by rw [HN.out]; exact hlt)⟩
      obtain ⟨g, rfl, -⟩ := HR.out.addr (by rw [HN.out]; omega)
      have c0 : wx.cell? ⟨g, k, none⟩ = some (.string s) := by
        have := (HR.out.below HB.out).cell (fun _ => rfl) rfl hs (r := 0) (by omega) rfl
        simpa using this
      have hlen : ((held.take k).map fun s => (⟨to_, mac, s⟩ : Hp)).length = k := by simp; rw [HN.out]; omega
      have HL := Lib.hid hlen
      have hz := HB.out.size
      have htk : (held.take (k + 1)).map (fun s => (⟨to_, mac, s⟩ : Hp)) = (held.take k).map (fun s => (⟨to_, mac, s⟩ : Hp)) ++ [⟨to_, mac, s⟩] := by
        rw [List.take_add_one, hs]; simp
      have HTK := Lib.hid htk
      have hOw : wx.ownsRow w.heap.size 87 3 (.slice A k c) k (((held.take k).map fun s => (⟨to_, mac, s⟩ : Hp)).flatMap Hp.cells) := by have := HO.out; unfold HRow SRow at this; rw [hlen] at this; exact this
      have HOW := Lib.hid hOw
      clear hs hlen htk hOw
      go_wp2_with (at_builtin; refine wpList_append_lies _ rfl (.tmp 19) (.tmp 24) 83 rfl w.heap.size 87 i0 (.agg #[.int .i64 0, .int .i64 0, .string ⟨#[]⟩]) 3 32 Tryz.underlying83 HI.out HZ0.out HZ1.out HZ2.out rfl (by decide) (.slice A k c) k _ rfl (HOW.out.alloc _) ⟨wx.heap.size, 0, none⟩ 1 1 [.int .i64 to_, .int .i64 mac, .string s] rfl rfl (World.news_of_block (heap_alloc_new wx _)) (by simp [Value.oneCell']) (by omega) (by unfold maxLen; omega) (by omega) (by simp; omega) (wx.heap.size + 1) (by simp) ?_; intro g2 cap w7 hown hgrow hat hlt)
      go_roundw
      case rel =>
        refine ⟨k + 1, _, _, by omega, by go_num, rfl, ?_, ?_⟩
        · rw [HTK.out]
          exact SRow.app (x := (⟨to_, mac, s⟩ : Hp)) (by rw [HL.out]; exact hown)
        · exact (below_alloc HB.out).grown hgrow (by simp; omega) (fun q e => by have := (HO.out.bk' (ob_bk e)).1; omega)
      case measure => simp [Go.RowKit.intOf]; omega
    · obtain rfl : k = N := by omega
      have hkl : decide ((k : Int) < (k : Int)) = false := by simp
      go_wp2_with fail
      go_ret
      refine ⟨⟨_, _, rfl, ?_⟩, HB.out⟩
      have := HO.out
      rw [List.take_of_length_le (by rw [HN.out]; exact Nat.le_refl _)] at this
      exact this
/-- a request -/
def req (c : Tc) (to_ : Int) : Am := ⟨1, c.own, c.mac, to_, 0⟩
/-- the defence of the table's own address -/
def defA (c : Tc) (now : Int) : Tc × List Am := if c.ann && !agedB now c.at_ 10 then (c, []) else ({ c with ann := true, at_ := now }, [req c c.own])
theorem Chg.drew {S : Nat → Prop} {a w : World} (h : Chg S a w) : Chg S a w.drew := ⟨h.os, h.tape, h.output, h.size, h.block⟩
theorem Chg.alloc {S : Nat → Prop} {a w : World} (h : Chg S a w) (o : Obj) : Chg S a (w.alloc o) := h.below ((Below.refl _ _).alloc (Nat.le_refl _) o)
theorem mrow_one {W : World} {g lo : Nat} {a : Am} (hlo : lo ≤ g) (h : W.heap[g]? = some (.cells #[.int .i64 a.op, .int .i64 a.f, .int .i64 a.fm, .int .i64 a.t, .int .i64 a.tm] 79 (0, 0))) : MRow W lo (some ⟨g, 0, none⟩) 1 [a] :=
  SRow.new hlo amk h rfl (by simp [maxLen])
set_option maxHeartbeats 4000000 in
theorem defend_any (T : Nat) (m : Option Nat) (es : Array MapEntry) (clk : Nat) (c : Tc) (L : List En) (now : Int) (w : World) (h : Tab w T m es clk c L) (h1 : In64 now) (h2 : In64 c.at_) :
    Calls Tryz.prog 75 #[.pointer (some ⟨T, 0, none⟩), .int .i64 now] w fun e w' => (∃ B k, e = .returned (.slice B (defA c now).2.length k) ∧ MRow w' w.heap.size B k (defA c now).2) ∧ Tab w' T m es clk (defA c now).1 L ∧ Chg (fun q => q = T) w w' := by
  obtain ⟨own, mac, ann, at_⟩ := c
  obtain ⟨q0, q1, q2, q3, q4⟩ := cellsT h
  obtain ⟨⟨-, -, -, -, -⟩, z0, z1, z2, z3, z4⟩ := cells5 h.tab
  have lt := blk_lt h.tab
  dsimp only at q0 q1 q3 q4 h2
  have HT := Lib.hid h
  have HA := Lib.hid (aged_any now at_ 10 h1 h2)
  unfold defA
  dsimp only
  generalize agedB now at_ 10 = ag at *
  clear h h1 h2
  go_enter Tryz.func75, Tryz.ntmps75
  by_cases hc : ann = true ∧ ag = false
  · obtain ⟨rfl, rfl⟩ := hc
    go_wp2_with (go_at_call 107; (with_reducible refine (HA.out _).mono ?_); rintro e w' ⟨rfl, rfl⟩)
    go_ret
    exact ⟨⟨none, 0, rfl, SRow.nil _ _ _ _ _⟩, HT.out, Chg.refl _ _⟩
  · have hb : (ann && !ag) = false := by cases ann <;> cases ag <;> simp_all
    rw [hb]
    have hcase : ann = false ∨ (ann = true ∧ ag = true) := by cases ann <;> cases ag <;> simp_all
    have ht2 : Hid (∀ W : World, W = World.setCell (World.setCell w ⟨T, 3, none⟩ (.bool true)) ⟨T, 4, none⟩ (.int .i64 now) → Tab W T m es clk ⟨own, mac, true, now⟩ L ∧ Chg (fun q => q = T) w W) := Lib.hid (fun W hW => by
      subst hW
      have hch : Chg (fun q => q = T) w (World.setCell (World.setCell w ⟨T, 3, none⟩ (.bool true)) ⟨T, 4, none⟩ (.int .i64 now)) := Chg.setCell (p := ⟨T, 4, none⟩) (Chg.setCell (p := ⟨T, 3, none⟩) (Chg.refl (fun q => q = T) w) (.inl rfl) _) (.inl rfl) _
      exact ⟨HT.out.own hch (cells_eq (block_setCell (k := 4) (v := .int .i64 now) (block_setCell (k := 3) (v := .bool true) HT.out.tab)) (by simp)), hch⟩)
    clear hb hc HT
    rcases hcase with rfl | ⟨rfl, rfl⟩
    all_goals
      go_upto_region 4 with (go_at_call 107; (with_reducible refine (HA.out _).mono ?_); rintro e w' ⟨rfl, rfl⟩)
      obtain ⟨w1, hw1⟩ : ∃ w1, World.setCell (World.setCell w ⟨T, 3, none⟩ (.bool true)) ⟨T, 4, none⟩ (.int .i64 now) = w1 := ⟨_, rfl⟩
      rw [hw1]
      obtain ⟨hT1, hC1⟩ := ht2.out w1 hw1.symm
      have HT1 := Lib.hid hT1; have HC1 := Lib.hid hC1
      obtain ⟨r0, r1, -⟩ := cellsT hT1
      have lt1 := blk_lt hT1.tab
      clear hw1 ht2 hT1 hC1 q0 q1 q2 q3 q4 z0 z1 z2 z3 z4 HA
      go_wp2_with fail
      refine (request_any T m es clk ⟨own, mac, true, now⟩ L own w1 HT1.out).mono ?_
      rintro e w2 ⟨rfl, hb2⟩
      go_wp2_with fail
      go_ret
      exact ⟨⟨some ⟨w2.heap.size, 0, none⟩, 1, rfl, mrow_one (a := req ⟨own, mac, true, now⟩ own) (by have := hb2.size; have := HC1.out.size; omega) (alloc_new w2 _)⟩, (HT1.out.below hb2).below ((Below.refl _ _).alloc (Nat.le_refl _) _), (HC1.out.below hb2).alloc _⟩
end Go.Proofs.YtmgjcjacoegocaaGreatDoor.Ar

namespace Go.Proofs.YtmgjcjacoegocaaGreatDoor.Ar
set_option maxRecDepth 100000
open Go.RowKit Go.Proofs.YtmgjcjacoegocaaGreatDoor.Wire

abbrev AL := List (Int × Ev)
def absL (L : List En) : AL := L.map fun e => (e.k, e.v)
/-- the entry of an address -/
def look (A : AL) (k : Int) : Option Ev := (A.find? fun x => decide (x.1 = k)).map (·.2)
/-- the entry of an address is set anew, where it stands -/
def upd (A : AL) (k : Int) (v : Ev) : AL := A.map fun x => if x.1 = k then (k, v) else x
theorem look_at {L : List En} (hn : (L.map (·.k)).Nodup) {j : Nat} {x : En} (hj : L[j]? = some x) : look (absL L) x.k = some x.v := by
  unfold look absL
  rw [List.find?_map]
  have := find_key hn hj
  rw [show ((fun y : Int × Ev => decide (y.1 = x.k)) ∘ fun e : En => (e.k, e.v)) = fun y : En => decide (y.k = x.k) from rfl, this]
  rfl
theorem look_no {L : List En} {k : Int} (h : k ∉ L.map (·.k)) : look (absL L) k = none := by
  unfold look absL
  rw [List.find?_map, Option.map_map, Option.map_eq_none_iff, List.find?_eq_none]
  intro y hy; simp; rintro rfl; exact h (List.mem_map_of_mem hy)
theorem abs_set {L : List En} (hn : (L.map (·.k)).Nodup) {j : Nat} {x e' : En} (hj : L[j]? = some x) (hk : e'.k = x.k) : absL (L.set j e') = upd (absL L) x.k e'.v := by
  unfold absL upd
  apply List.ext_getElem?
  intro i
  rw [List.getElem?_map, List.getElem?_set, List.getElem?_map, List.getElem?_map]
  have hl := (List.getElem?_eq_some_iff.1 hj).1
  by_cases q : j = i
  · subst q
    rw [if_pos rfl, if_pos hl, hj]; simp [hk]
  · rw [if_neg q]
    cases hi : L[i]? with
    | none => simp
    | some y =>
      have hy : y.k ≠ x.k := fun e => q (by
        have h1 : (L.map (·.k))[j]? = some x.k := by simp [hj]
        have h2 : (L.map (·.k))[i]? = some x.k := by simp [hi, e]
        obtain ⟨a1, b1⟩ := List.getElem?_eq_some_iff.1 h1
        obtain ⟨a2, b2⟩ := List.getElem?_eq_some_iff.1 h2
        rcases Nat.lt_trichotomy j i with r | r | r
        · exact absurd (b1.trans b2.symm) ((List.pairwise_iff_getElem.1 hn) j i a1 a2 r)
        · exact r
        · exact absurd (b2.trans b1.symm) ((List.pairwise_iff_getElem.1 hn) i j a2 a1 r))
      simp [hy]
theorem bk_none (q : Nat) : ¬ BK none q := fun ⟨_, e, _⟩ => by cases e
end Go.Proofs.YtmgjcjacoegocaaGreatDoor.Ar

namespace Go.Proofs.YtmgjcjacoegocaaGreatDoor.Ar
set_option maxRecDepth 100000
open Go.RowKit Go.Proofs.YtmgjcjacoegocaaGreatDoor.Wire

/-- what Receive does -/
def recvA (c : Tc) (A : AL) (now : Int) (a : Am) : Tc × AL × List Am × List Hp :=
  if ¬ a.ok then (c, A, [], [])
  else if a.f = c.own then (if a.fm = c.mac then (c, A, [], []) else ((defA c now).1, A, (defA c now).2, []))
  else if a.t ≠ c.own then (c, A, [], [])
  else match look A a.f with
    | some (.inc held _ _ _) => (c, upd A a.f (.res a.fm now now), (if a.op = 1 then [⟨2, c.own, c.mac, a.f, a.fm⟩] else []), held.map fun s => ⟨a.f, a.fm, s⟩)
    | _ => (c, A, (if a.op = 1 then [⟨2, c.own, c.mac, a.f, a.fm⟩] else []), [])
/-- a call at a table: its result, and the table behind it -/
def RecvP (T : Nat) (m : Option Nat) (L : List En) (w : World) (r : Tc × AL × List Am × List Hp) (e : Ending) (w' : World) : Prop :=
  ∃ (B : Option Addr) (k : Nat) (D : Option Addr) (d : Nat) (m' : Option Nat) (es' : Array MapEntry) (clk' : Nat) (L' : List En), e = .returned (.tuple #[.slice B r.2.2.1.length k, .slice D r.2.2.2.length d]) ∧
    MRow w' w.heap.size B k r.2.2.1 ∧ HRow w' w.heap.size D d r.2.2.2 ∧ Tab w' T m' es' clk' r.1 L' ∧ absL L' = r.2.1 ∧ Chg (TOwn T m L) w w' ∧ (∀ q, TOwn T m' L' q → (TOwn T m L q ∨ w.heap.size ≤ q) ∧ ¬ BK B q ∧ ¬ BK D q)

/-- nothing is told, the table is as it was -/
theorem RecvP.same {T : Nat} {m : Option Nat} {es : Array MapEntry} {clk : Nat} {c : Tc} {L : List En} {w w' : World} (h : Tab w T m es clk c L) (hb : Below w.heap.size w w') : RecvP T m L w (c, absL L, [], []) (.returned (.tuple #[.slice none 0 0, .slice none 0 0])) w' :=
  ⟨none, 0, none, 0, m, es, clk, L, rfl, SRow.nil _ _ _ _ _, SRow.nil _ _ _ _ _, h.below hb, rfl, Chg.of_below hb, fun q hq => ⟨.inl hq, bk_none q, bk_none q⟩⟩
/-- a reply is told, the table is as it was -/
theorem RecvP.told {T : Nat} {m : Option Nat} {es : Array MapEntry} {clk : Nat} {c : Tc} {L : List En} {w w'' : World} {B : Option Addr} {k : Nat} {out : List Am} (h : Tab w T m es clk c L) (hr : MRow w'' w.heap.size B k out) (hb : Below w.heap.size w w''.drew) : RecvP T m L w (c, absL L, out, []) (.returned (.tuple #[.slice B out.length k, .slice none 0 0])) w''.drew :=
  ⟨B, k, none, 0, m, es, clk, L, rfl, hr.kept (fun _ _ => rfl), SRow.nil _ _ _ _ _, h.below hb, rfl, Chg.of_below hb, fun q hq => ⟨.inl hq, fun r => by have := (hr.bk' r).1; have := h.lt hq; omega, bk_none q⟩⟩
set_option maxHeartbeats 8000000 in
theorem receive_any (T : Nat) (m : Option Nat) (es : Array MapEntry) (clk : Nat) (c : Tc) (L : List En) (now op f fm t tm : Int) (w : World) (h : Tab w T m es clk c L) (h1 : In64 now) (h2 : In64 c.at_) :
    Calls Tryz.prog 25 #[.pointer (some ⟨T, 0, none⟩), .int .i64 now, .agg #[.int .i64 op, .int .i64 f, .int .i64 fm, .int .i64 t, .int .i64 tm]] w fun e w' => RecvP T m L w (recvA c (absL L) now ⟨op, f, fm, t, tm⟩) e w' := by
  have HT0 := Lib.hid h
  have HN := Lib.hid h1; have HAT := Lib.hid h2
  have HX := Lib.hid (alloc_new w (.cells #[.int .i64 op, .int .i64 f, .int .i64 fm, .int .i64 t, .int .i64 tm] 79))
  have HB := Lib.hid (below_alloc (o := .cells #[.int .i64 op, .int .i64 f, .int .i64 fm, .int .i64 t, .int .i64 tm] 79) (Below.refl w.heap.size w))
  obtain ⟨x, hx⟩ : ∃ x, w.heap.size = x := ⟨_, rfl⟩
  rw [hx] at HX
  have hTx : T < x := by rw [← hx]; exact blk_lt h.tab
  have HXE := Lib.hid hx
  clear h h1 h2 hx
  go_enter Tryz.func25, Tryz.ntmps25
  go_upto_region 1 with fail
  rw [HXE.out]
  generalize w.alloc (.cells #[.int .i64 op, .int .i64 f, .int .i64 fm, .int .i64 t, .int .i64 tm] 79) = w1 at *
  obtain ⟨⟨a0, a1, a2, a3, a4⟩, -⟩ := cells5 HX.out
  go_wp2_with fail
  refine (valid_any op f fm t tm w1).mono ?_
  rintro e w2 ⟨rfl, hb⟩
  have HX2 := Lib.hid (bblock hb HX.out); have HB2 := Lib.hid (below_call HB.out hb)
  have HT2 := Lib.hid (HT0.out.below HB2.out)
  clear a0 a1 a2 a3 a4 hb HX HB
  by_cases hok : (⟨op, f, fm, t, tm⟩ : Am).ok
  case neg =>
    have e1 : Am.okB ⟨op, f, fm, t, tm⟩ = false := by
      cases q : Am.okB ⟨op, f, fm, t, tm⟩ with
      | false => rfl
      | true => exact absurd ((Am.okB_iff _).1 q) hok
    have HR : Hid (recvA c (absL L) now ⟨op, f, fm, t, tm⟩ = (c, absL L, [], [])) := Lib.hid (by unfold recvA; rw [if_pos hok])
    rw [e1]
    go_wp2_with fail
    go_ret2
    rw [HR.out]
    exact RecvP.same HT0.out HB2.out
  case pos =>
    have e1 : Am.okB ⟨op, f, fm, t, tm⟩ = true := (Am.okB_iff _).2 hok
    rw [e1]
    have HOK := Lib.hid hok
    clear e1 hok
    obtain ⟨⟨a0, a1, a2, a3, a4⟩, -⟩ := cells5 HX2.out
    obtain ⟨t0, t1, t2, t3, t4⟩ := cellsT HT2.out
    go_upto_region 3 with fail
    go_region
    by_cases hf : f = c.own
    case pos =>
      subst hf
      by_cases hfm : fm = c.mac
      case pos =>
        subst hfm
        have HR : Hid (recvA c (absL L) now ⟨op, c.own, c.mac, t, tm⟩ = (c, absL L, [], [])) := Lib.hid (by unfold recvA; rw [if_neg (fun q => q HOK.out)]; simp)
        have e2 : (c.own == c.own) = true := by simp
        have e3 : (c.mac == c.mac) = true := by simp
        go_upto_region 4 with fail
        go_region
        go_wp2_with fail
        go_ret2
        rw [HR.out]
        exact RecvP.same HT0.out HB2.out.drew.drew
      case neg =>
        have HR : Hid (recvA c (absL L) now ⟨op, c.own, fm, t, tm⟩ = ((defA c now).1, absL L, (defA c now).2, [])) := Lib.hid (by unfold recvA; rw [if_neg (fun q => q HOK.out), if_pos rfl, if_neg hfm])
        have e2 : (c.own == c.own) = true := by simp
        have e3 : (fm == c.mac) = false := beq_eq_false_iff_ne.2 hfm
        go_upto_region 4 with fail
        go_region
        have HT3 := Lib.hid (HT2.out.drew.drew); have HB3 := Lib.hid (HB2.out.drew.drew)
        obtain ⟨w3, hw3⟩ : ∃ w3, w2.drew.drew = w3 := ⟨_, rfl⟩
        rw [hw3] at HT3 HB3 ⊢
        clear a0 a1 a2 a3 a4 t0 t1 t2 t3 t4 HX2 HT2 HB2 hw3 e2 e3 hfm
        go_wp2_with fail
        refine (defend_any T m es clk c L now w3 HT3.out HN.out HAT.out).mono ?_
        rintro e w4 ⟨⟨B, k, rfl, hrow⟩, hT4, hC4⟩
        have HRW := Lib.hid hrow; have HT4 := Lib.hid hT4; have HC4 := Lib.hid hC4
        clear hrow hT4 hC4
        go_wp2_with fail
        go_ret2
        rw [HR.out]
        have hb3 := HB3.out
        have hz := hb3.size
        have hTl : ∀ q, TOwn T m L q → q < w.heap.size := fun q hq => HT0.out.lt hq
        refine ⟨B, k, none, 0, m, es, clk, L, rfl, HRW.out.mono hz, SRow.nil _ _ _ _ _, HT4.out, rfl, (Chg.of_below hb3).trans HC4.out (fun q e => .inl (.inl e)), fun q hq => ⟨.inl hq, fun hb => ?_, bk_none q⟩⟩
        have := (HRW.out.bk' hb).1
        have := hTl q hq
        omega
    case neg =>
      have e2 : (f == c.own) = false := beq_eq_false_iff_ne.2 hf
      by_cases ht : t = c.own
      case neg =>
        have HR : Hid (recvA c (absL L) now ⟨op, f, fm, t, tm⟩ = (c, absL L, [], [])) := Lib.hid (by unfold recvA; rw [if_neg (fun q => q HOK.out), if_neg hf, if_pos ht])
        have e3 : (t != c.own) = true := by simpa using ht
        have e3' : (t == c.own) = false := beq_eq_false_iff_ne.2 ht
        go_upto_region 7 with fail
        go_region
        go_wp2_with fail
        go_ret2
        rw [HR.out]
        exact RecvP.same HT0.out HB2.out.drew.drew
      case pos =>
        subst ht
        have e3 : (c.own == c.own) = true := by simp
        go_upto_region 7 with fail
        go_region
        have HT3 := Lib.hid (HT2.out.drew.drew); have HB3 := Lib.hid (HB2.out.drew.drew); have HX3 : Hid (w2.drew.drew.heap[x]? = some (.cells #[.int .i64 op, .int .i64 f, .int .i64 fm, .int .i64 c.own, .int .i64 tm] 79)) := Lib.hid HX2.out
        obtain ⟨w3, hw3⟩ : ∃ w3, w2.drew.drew = w3 := ⟨_, rfl⟩
        rw [hw3] at HT3 HB3 HX3 ⊢
        clear a0 a1 a2 a3 a4 t0 t1 t2 t3 t4 HX2 HT2 HB2 hw3 e2 e3
        obtain ⟨out, hout⟩ : ∃ out : List Am, (if op = 1 then [(⟨2, c.own, c.mac, f, fm⟩ : Am)] else []) = out := ⟨_, rfl⟩
        have HOUT := Lib.hid hout
        obtain ⟨⟨a0, a1, a2, a3, a4⟩, -⟩ := cells5 HX3.out
        obtain ⟨t0, t1, t2, t3, t4⟩ := cellsT HT3.out
        clear hout
        go_upto_if 43 with fail
        go_cut [8] (fun s wy => ∃ B k, s = .slice B out.length k ∧ MRow wy w.heap.size B k out ∧ Below w3.heap.size w3 wy)
        case first =>
          by_cases hop : op = 1
          · subst hop
            have e4 : ((1 : Int) == 1) = true := by simp
            have ho : out = [⟨2, c.own, c.mac, f, fm⟩] := by rw [← HOUT.out]; simp
            subst ho
            go_upto_region 11 with fail
            obtain ⟨i0, hi, hz0, hz1, hz2⟩ := info_parts infoAm
            have ltT := blk_lt HT3.out.tab; have ltX := blk_lt HX3.out
            go_region_law (refine step_append_lies _ (by rfl) _ _ _ (by rfl) w.heap.size 79 i0 (.agg #[.int .i64 0, .int .i64 0, .int .i64 0, .int .i64 0, .int .i64 0]) 5 40 Tryz.underlying75 hi hz0 hz1 hz2 rfl (by decide) (.slice none 0 0) 0 [] (by rfl) (⟨rfl, .inl ⟨rfl, rfl⟩⟩) ⟨w3.heap.size, 0, none⟩ 1 1 [.int .i64 2, .int .i64 c.own, .int .i64 c.mac, .int .i64 f, .int .i64 fm] (by rfl) rfl (World.news_of_block (heap_alloc_new w3 _)) (by simp [Value.oneCell']) (by omega) (by unfold maxLen; omega) (by omega) (by have := HB3.out.size; simp; omega) (w3.heap.size + 1) (by simp) ?_; intro g cap w5 hown hgrow hat hlt)
            all_goals
              go_wp2_with fail
              go_meet
              exact ⟨_, cap, rfl, SRow.app (l := []) (x := (⟨2, c.own, c.mac, f, fm⟩ : Am)) hown, (below_alloc (Below.refl w3.heap.size w3)).drew.grown hgrow (by simp [World.drew]) (fun k e => by cases e)⟩
          · have e4 : (op == 1) = false := beq_eq_false_iff_ne.2 hop
            have ho : out = [] := by rw [← HOUT.out]; simp [hop]
            subst ho
            go_wp2_with fail
            go_meet
            exact ⟨none, 0, rfl, SRow.nil _ _ _ _ _, Below.refl _ _⟩
        case rest =>
          clear a0 a1 a2 a3 a4 t0 t1 t2 t3 t4
          obtain ⟨B, k, rfl, hrow, hb4⟩ := hcut
          obtain ⟨w4, rfl⟩ : ∃ wo : World, wo = wc := ⟨_, rfl⟩
          have HRW := Lib.hid hrow
          have HT4 := Lib.hid (HT3.out.below hb4); have HX4 := Lib.hid (bblock hb4 HX3.out); have HB4 := Lib.hid (below_call HB3.out hb4)
          clear hrow hb4 HT3 HX3 HB3
          obtain ⟨⟨a0, a1, a2, a3, a4⟩, -⟩ := cells5 HX4.out
          obtain ⟨t0, t1, t2, t3, t4⟩ := cellsT HT4.out
          have y1 := ta_ii; have y2 := ta_ir; have y3 := ta_in
          by_cases hk : f ∈ L.map (·.k)
          case neg =>
            have hl := HT4.out.drew.look_none f hk
            have HR : Hid (recvA c (absL L) now ⟨op, f, fm, c.own, tm⟩ = (c, absL L, out, [])) := Lib.hid (by unfold recvA; rw [if_neg (fun q => q HOK.out), if_neg hf, if_neg (by simp), look_no hk, HOUT.out])
            go_upto_region 12 with fail
            go_region
            go_wp2_with fail
            go_ret2
            rw [HR.out]
            exact RecvP.told HT0.out HRW.out HB4.out.drew
          case pos =>
            obtain ⟨x9, hx9, rfl⟩ := List.mem_map.1 hk
            obtain ⟨j, hj⟩ := List.getElem?_of_mem hx9
            have hl := HT4.out.drew.look_some hj
            have hlk := look_at HT4.out.nod hj
            have hok9 := HT4.out.ok x9 hx9
            have hmem := hx9
            clear hx9 hk
            obtain ⟨k9, v, eb, Hb, hc⟩ := x9
            unfold En.val at hl
            dsimp only at hf hl hlk hok9 a1 HX4 HOUT HOK ⊢
            cases v with
            | res mac9 since used =>
              have HR : Hid (recvA c (absL L) now ⟨op, k9, fm, c.own, tm⟩ = (c, absL L, out, [])) := Lib.hid (by unfold recvA; rw [if_neg (fun q => q HOK.out), if_neg hf, if_neg (by simp), hlk, HOUT.out])
              dsimp only [Ev.ty] at hl
              clear hlk hok9
              go_upto_region 12 with fail
              go_region
              go_wp2_with fail
              go_ret2
              rw [HR.out]
              exact RecvP.told HT0.out HRW.out HB4.out.drew
            | inc held sent first last =>
              have HR : Hid (recvA c (absL L) now ⟨op, k9, fm, c.own, tm⟩ = (c, upd (absL L) k9 (.res fm now now), out, held.map fun s => ⟨k9, fm, s⟩)) := Lib.hid (by unfold recvA; rw [if_neg (fun q => q HOK.out), if_neg hf, if_neg (by simp), hlk, HOUT.out])
              dsimp only [Ev.ty] at hl
              have HOK9 := Lib.hid hok9
              clear hlk hok9
              go_upto_region 12 with fail
              go_region
              go_upto_region 15 with fail
              have HT5 := Lib.hid HT4.out.drew; have HB5 := Lib.hid HB4.out.drew; have HX5 : Hid (w4.drew.heap[x]? = _) := Lib.hid HX4.out
              have HRW5 : Hid (MRow w4.drew w.heap.size B k out) := Lib.hid (HRW.out.kept (fun _ _ => rfl))
              have HOK5 : Hid (En.ok w4.drew ⟨k9, .inc held sent first last, eb, Hb, hc⟩) := Lib.hid (En.ok_kept HOK9.out (fun _ _ => rfl))
              clear hl a0 a1 a2 a3 a4 t0 t1 t2 t3 t4 HT4 HB4 HX4 HRW HOK9 y1 y2 y3
              generalize w4.drew = w5 at *
              obtain ⟨r, rfl⟩ : ∃ r, m = some r := by
                rcases HT5.out.map with ⟨-, q⟩ | ⟨r, q, -⟩
                · subst q; cases hmem
                · exact ⟨r, q⟩
              obtain ⟨hmap, hrT⟩ : w5.heap[r]? = some (.map es clk) ∧ r ≠ T := by
                rcases HT5.out.map with ⟨q, -⟩ | ⟨r', q, q2, q3⟩
                · cases q
                · cases q; exact ⟨q2, q3⟩
              have HT6 : Hid (Tab ((w5.alloc (.cells #[.int .i64 fm, .int .i64 now, .int .i64 now] 172)).drew) T (some r) es clk c L) := Lib.hid ((HT5.out.below ((Below.refl _ _).alloc (Nat.le_refl _) _)).drew)
              have hup := run_upd_old (W := (w5.alloc (.cells #[.int .i64 fm, .int .i64 now, .int .i64 now] 172)).drew) k9 (.iface 170 (.pointer (some ⟨w5.heap.size, 0, none⟩))) (block_alloc hmap _) (HT5.out.ents (by simp)) HT5.out.nod (keys_at hj).1 (keys_at hj).2
              unfold tyM at hup
              obtain ⟨w7, hw7⟩ : ∃ W : World, W = { (w5.alloc (.cells #[.int .i64 fm, .int .i64 now, .int .i64 now] 172)).drew with heap := (w5.alloc (.cells #[.int .i64 fm, .int .i64 now, .int .i64 now] 172)).drew.heap.setIfInBounds r (.map (es.modify j fun x => { x with key := .int .i64 k9, val := (.iface 170 (.pointer (some ⟨w5.heap.size, 0, none⟩))) }) clk) } := ⟨_, rfl⟩
              rw [← hw7] at hup
              have HW7 := Lib.hid hw7; clear hw7
              obtain ⟨⟨a0, a1, a2, a3, a4⟩, -⟩ := cells5 HX5.out
              obtain ⟨t0, t1, t2, t3, t4⟩ := cellsT HT5.out
              have ltT := blk_lt HT5.out.tab; have ltX := blk_lt HX5.out
              go_region
              clear a0 a1 a2 a3 a4 t0 t1 t2 t3 t4 hup
              have hlt5 : w.heap.size ≤ w5.heap.size := HB5.out.size
              have hrl : r < w.heap.size := HT0.out.lt (.inr (.inl rfl))
              have hTl : ∀ q, TOwn T (some r) L q → q < w.heap.size := fun q hq => HT0.out.lt hq
              have HTL := Lib.hid hTl; have HNOD := Lib.hid HT0.out.nod
              obtain ⟨hT7, hsz7, hkp7, hch7⟩ : Tab w7 T (some r) (es.modify j fun x => { x with key := .int .i64 k9, val := (.iface 170 (.pointer (some ⟨w5.heap.size, 0, none⟩))) }) clk c (L.set j ⟨k9, .res fm now now, w5.heap.size, none, 0⟩) ∧ w7.heap.size = w5.heap.size + 1 ∧ (∀ q, q < w5.heap.size → q ≠ r → w7.heap[q]? = w5.heap[q]?) ∧ Chg (TOwn T (some r) L) w w7 := by
                rw [HW7.out]
                refine ⟨HT6.out.upd hj (e' := ⟨k9, .res fm now now, w5.heap.size, none, 0⟩) rfl ⟨alloc_new w5 _, rfl, HN.out, HN.out⟩ (fun q hq hq2 => ?_), by show ((w5.alloc _).heap.setIfInBounds r _).size = _; simp, fun q hq hne => ?_, ((Chg.of_below HB5.out).alloc _).drew.setObj (.inl (.inr (.inl rfl))) _⟩
                · rcases hq with rfl | ⟨a, e, -⟩
                  · have := hTl _ hq2; dsimp only at this; omega
                  · cases e
                · show ((w5.alloc _).heap.setIfInBounds r _)[q]? = _
                  rw [Array.getElem?_setIfInBounds_ne (fun e => hne e.symm)]
                  exact Below.heap_alloc w5 _ q hq
              have HT7 := Lib.hid hT7; have HK7 := Lib.hid hkp7; have HC7 := Lib.hid hch7
              have hown9 : ∀ q, (q = eb ∨ ∃ a, Hb = some a ∧ a.block = q) → q < w5.heap.size ∧ q ≠ r := fun q hq => ⟨by have := hTl q (.inr (.inr ⟨_, hmem, hq⟩)); omega, fun e => (HT0.out.eo _ hmem q hq).2 (by rw [e])⟩
              have hok7 : En.okV w7 eb Hb hc (.inc held sent first last) := okV_kept HOK5.out (fun q hq => hkp7 q (hown9 q hq).1 (hown9 q hq).2)
              have HX7 : Hid (w7.heap[x]? = _) := Lib.hid ((hkp7 x (blk_lt HX5.out) (by have := HXE.out; omega)).trans HX5.out)
              have HRW7 : Hid (MRow w7 w.heap.size B k out) := Lib.hid (HRW5.out.kept (fun a e => hkp7 _ (HRW5.out.bk e).2 (by have := (HRW5.out.bk e).1; omega)))
              have hb5 : ∀ q, BK B q → w.heap.size ≤ q ∧ q < w5.heap.size := fun q hq => HRW5.out.bk' hq
              have HB5' := Lib.hid hb5
              have HOK7 := Lib.hid hok7
              clear hT7 hkp7 hch7 hok7 hTl hown9 hb5 HW7 HT6 HT5 HX5 HRW5 HOK5 HB5 hmap HT0
              obtain ⟨⟨a0, a1, a2, a3, a4⟩, -⟩ := cells5 HX7.out
              go_wp2_with fail
              refine (release_any eb Hb hc held sent first last k9 fm w7 HOK7.out.1 HOK7.out.2.1 (by have := HOK7.out.2.2.2.1; omega)).mono ?_
              rintro e w8 ⟨⟨D, d, rfl, hrow⟩, hb8⟩
              have HHR := Lib.hid hrow; have HB8 := Lib.hid hb8
              clear hrow hb8 a0 a1 a2 a3 a4
              go_wp2_with fail
              go_ret2
              rw [HR.out]
              refine ⟨B, k, D, d, some r, _, clk, _, by simp, HRW7.out.below HB8.out, HHR.out.mono (by omega), HT7.out.below HB8.out, abs_set HNOD.out hj rfl, HC7.out.below HB8.out, fun q hq => ?_⟩
              have hnew : ∀ q, TOwn T (some r) L q → (TOwn T (some r) L q ∨ w.heap.size ≤ q) ∧ ¬ BK B q ∧ ¬ BK D q := fun q hq => ⟨.inl hq, fun hb => by have := (HB5'.out q hb).1; have := HTL.out q hq; omega, fun hd => by have := (HHR.out.bk' hd).1; have := HTL.out q hq; omega⟩
              rcases hq with q1 | q1 | ⟨y, hy, q1⟩
              · exact hnew q (.inl q1)
              · exact hnew q (.inr (.inl q1))
              · rcases mem_set hy with rfl | ⟨i9, hi9, hy9⟩
                · rcases q1 with rfl | ⟨a, e, -⟩
                  · exact ⟨.inr hlt5, fun hb => by have := (HB5'.out _ hb).2; dsimp only at this; omega, fun hd => by have := (HHR.out.bk' hd).1; dsimp only at this; omega⟩
                  · cases e
                · exact hnew q (.inr (.inr ⟨y, List.mem_of_getElem? hy9, q1⟩))
end Go.Proofs.YtmgjcjacoegocaaGreatDoor.Ar

namespace Go.Proofs.YtmgjcjacoegocaaGreatDoor.Ar
set_option maxRecDepth 100000
open Go.RowKit Go.Proofs.YtmgjcjacoegocaaGreatDoor.Wire

def last4 (l : List ByteArray) : List ByteArray := if 4 < l.length then l.drop 1 else l
/-- what Send does, while the table has room -/
def sendA (c : Tc) (A : AL) (now to_ : Int) (s : ByteArray) : AL × Int × List Am × Int :=
  if uniB to_ = false ∨ to_ = c.own ∨ 1024 < s.size then (A, 0, [], 50)
  else match look A to_ with
    | some (.res mac since _) => (upd A to_ (.res mac since now), mac, [], 0)
    | some (.inc held sent first last) => (upd A to_ (.inc (last4 (held ++ [s])) sent first last), 0, [], 0)
    | none => (A ++ [(to_, .inc [s] 1 now now)], 0, [req c to_], 0)
def SendP (T : Nat) (m : Option Nat) (L : List En) (c : Tc) (w : World) (r : AL × Int × List Am × Int) (e : Ending) (w' : World) : Prop :=
  ∃ (B : Option Addr) (k : Nat) (m' : Option Nat) (es' : Array MapEntry) (clk' : Nat) (L' : List En), e = .returned (.tuple #[.int .i64 r.2.1, .slice B r.2.2.1.length k, .int .i64 r.2.2.2]) ∧
    MRow w' w.heap.size B k r.2.2.1 ∧ Tab w' T m' es' clk' c L' ∧ absL L' = r.1 ∧ Chg (TOwn T m L) w w' ∧ (∀ q, TOwn T m' L' q → (TOwn T m L q ∨ w.heap.size ≤ q) ∧ ¬ BK B q)
theorem send_nil (now to_ : Int) (s : ByteArray) (w : World) : Calls Tryz.prog 22 #[.pointer none, .int .i64 now, .int .i64 to_, .string s] w fun e w' => e = .returned (.tuple #[.int .i64 0, .slice none 0 0, .int .i64 1]) ∧ w = w' := by
  go_enter Tryz.func22, Tryz.ntmps22
  go_wp2_with fail
  go_ret3
  exact ⟨rfl, rfl⟩
theorem run_map_len {W : World} {r clk : Nat} {es : Array MapEntry} (h : W.heap[r]? = some (.map es clk)) (ty : TypeId) : (Builtin.len_ #[165] ty #[.map (some r)]).run Tryz.prog W = .ok (.int .i64 es.size) W := by
  have hu : Tryz.prog.underlying 165 = some (.map 3 169) := underM
  unfold Builtin.len_
  simp [run_underlying hu, Go.MapKept.run_getObj_map h, Result.andThen, goInt]
theorem run_map_nil (W : World) (r : Nat) : (binOp .eql 165 (.map (some r)) (.map none)).run Tryz.prog W = .ok (.bool false) W := by kernel_rfl
theorem run_map_nn (W : World) : (binOp .eql 165 (.map none) (.map none)).run Tryz.prog W = .ok (.bool true) W := by kernel_rfl
theorem es_size {es : Array MapEntry} {L : List En} (h : Ents es (L.map (·.k)) (L.map En.val)) : es.size = L.length := by
  have := congrArg List.length h.1; simpa using this
set_option maxHeartbeats 8000000 in
theorem send_bad (T : Nat) (m : Option Nat) (es : Array MapEntry) (clk : Nat) (c : Tc) (L : List En) (now to_ : Int) (s : ByteArray) (w : World) (h : Tab w T m es clk c L) (hs : s.size ≤ 9223372036854775807) (hbad : uniB to_ = false ∨ to_ = c.own ∨ 1024 < s.size) :
    Calls Tryz.prog 22 #[.pointer (some ⟨T, 0, none⟩), .int .i64 now, .int .i64 to_, .string s] w fun e w' => e = .returned (.tuple #[.int .i64 0, .slice none 0 0, .int .i64 50]) ∧ w = w' := by
  obtain ⟨t0, -⟩ := cellsT h
  have H1 := Lib.hid (uni_any to_)
  clear h
  by_cases h1 : uniB to_ = false
  · rw [h1] at H1
    clear hbad h1
    go_enter Tryz.func22, Tryz.ntmps22
    go_wp2_with (go_at_call 67; (with_reducible refine (H1.out _).mono ?_); rintro e w' ⟨rfl, rfl⟩)
    go_ret3
    exact ⟨rfl, rfl⟩
  have h1' : uniB to_ = true := by cases q : uniB to_ <;> simp_all
  rw [h1'] at H1
  by_cases h2 : to_ = c.own
  · have e2 : (to_ == c.own) = true := beq_iff_eq.2 h2
    clear hbad h1 h1' h2
    go_enter Tryz.func22, Tryz.ntmps22
    go_wp2_with (go_at_call 67; (with_reducible refine (H1.out _).mono ?_); rintro e w' ⟨rfl, rfl⟩)
    go_ret3
    exact ⟨rfl, rfl⟩
  · have e2 : (to_ == c.own) = false := beq_eq_false_iff_ne.2 h2
    have h3 : 1024 < s.size := by rcases hbad with q | q | q; (exact absurd q h1); (exact absurd q h2); (exact q)
    have e3 : decide ((1024 : Int) < (s.size : Int)) = true := decide_eq_true (by omega)
    clear hbad h1 h1' h2 h3
    go_enter Tryz.func22, Tryz.ntmps22
    go_wp2_with (go_at_call 67; (with_reducible refine (H1.out _).mono ?_); rintro e w' ⟨rfl, rfl⟩)
    go_ret3
    exact ⟨rfl, rfl⟩
set_option maxHeartbeats 8000000 in
theorem send_res (T : Nat) (m : Option Nat) (es : Array MapEntry) (clk : Nat) (c : Tc) (L : List En) (now to_ : Int) (s : ByteArray) (w : World) (h : Tab w T m es clk c L) (hs : s.size ≤ 9223372036854775807) (hok : ¬ (uniB to_ = false ∨ to_ = c.own ∨ 1024 < s.size)) (hn : In64 now) {j : Nat} {mac since used : Int} {eb : Nat} {Hb : Option Addr} {hc : Nat} (hj : L[j]? = some ⟨to_, .res mac since used, eb, Hb, hc⟩) :
    Calls Tryz.prog 22 #[.pointer (some ⟨T, 0, none⟩), .int .i64 now, .int .i64 to_, .string s] w fun e w' => SendP T m L c w (upd (absL L) to_ (.res mac since now), mac, [], 0) e w' := by
  have hmem := List.mem_of_getElem? hj
  have hE := h.ok _ hmem
  obtain ⟨hblk, hHb, hs1, hs2⟩ : w.heap[eb]? = some (.cells #[.int .i64 mac, .int .i64 since, .int .i64 used] 172) ∧ Hb = none ∧ In64 since ∧ In64 used := hE
  subst hHb
  obtain ⟨t0, -, t2, -⟩ := cellsT h
  have hl := h.look_some hj
  unfold En.val at hl
  dsimp only [Ev.ty] at hl
  have H1 := Lib.hid (uni_any to_)
  have h1 : uniB to_ = true := by cases q : uniB to_ <;> simp_all
  have e2 : (to_ == c.own) = false := beq_eq_false_iff_ne.2 (fun q => hok (.inr (.inl q)))
  have e3 : decide ((1024 : Int) < (s.size : Int)) = false := decide_eq_false (fun q => hok (.inr (.inr (by omega))))
  rw [h1] at H1
  obtain ⟨⟨r0, r1, r2⟩, z0, z1, z2⟩ := cells3 hblk
  have hT : T ≠ eb := fun e => (h.eo _ hmem eb (.inl rfl)).1 e.symm
  have HT := Lib.hid h; have HJ := Lib.hid hj; have HBL := Lib.hid hblk
  have y1 := ta_rr
  clear h hj hmem hok h1 hblk
  go_enter Tryz.func22, Tryz.ntmps22
  go_upto_region 9 with (go_at_call 67; (with_reducible refine (H1.out _).mono ?_); rintro e w' ⟨rfl, rfl⟩)
  have hch : Chg (fun q => q = eb) w (World.setCell w ⟨eb, 2, none⟩ (.int .i64 now)) := Chg.setCell (p := ⟨eb, 2, none⟩) (Chg.refl (fun q => q = eb) w) (.inl rfl) _
  have hb9 : (World.setCell w ⟨eb, 2, none⟩ (.int .i64 now)).heap[eb]? = some (.cells #[.int .i64 mac, .int .i64 since, .int .i64 now] 172) := cells_eq (block_setCell (k := 2) (v := .int .i64 now) HBL.out) (by simp)
  obtain ⟨hT9, hown9⟩ := HT.out.setE (S := fun q => q = eb) (W' := World.setCell w ⟨eb, 2, none⟩ (.int .i64 now)) HJ.out (e' := ⟨to_, .res mac since now, eb, none, hc⟩) rfl rfl ⟨hb9, rfl, hs1, hn⟩ hch (fun q e => .inl e) (fun q hq => .inl hq)
  have HT9 := Lib.hid hT9; have HO9 := Lib.hid hown9; have HC9 := Lib.hid hch; have HB9 := Lib.hid hb9
  clear hT9 hown9 hch hb9 r0 r1 r2 z0 z1 z2 t0 t2 hl
  generalize World.setCell w ⟨eb, 2, none⟩ (.int .i64 now) = w9 at *
  obtain ⟨⟨r0, r1, r2⟩, -⟩ := cells3 HB9.out
  go_wp2_with fail
  go_ret3
  have hmem := List.mem_of_getElem? HJ.out
  exact ⟨none, 0, m, es, clk, _, rfl, SRow.nil _ _ _ _ _, HT9.out, abs_set HT.out.nod HJ.out rfl, HC9.out.mono (fun q e => .inr (.inr ⟨_, hmem, .inl e⟩)), fun q hq => ⟨HO9.out q hq, bk_none q⟩⟩
set_option maxHeartbeats 8000000 in
theorem send_new (T r : Nat) (es : Array MapEntry) (clk : Nat) (c : Tc) (L : List En) (now to_ : Int) (s : ByteArray) (w : World) (h : Tab w T (some r) es clk c L) (hs : s.size ≤ 9223372036854775807) (hok : ¬ (uniB to_ = false ∨ to_ = c.own ∨ 1024 < s.size)) (hn : In64 now) (hk : to_ ∉ L.map (·.k)) (hL : L.length < 16) :
    Calls Tryz.prog 22 #[.pointer (some ⟨T, 0, none⟩), .int .i64 now, .int .i64 to_, .string s] w fun e w' => SendP T (some r) L c w (absL L ++ [(to_, .inc [s] 1 now now)], 0, [req c to_], 0) e w' := by
  obtain ⟨hmap, hrT⟩ : w.heap[r]? = some (.map es clk) ∧ r ≠ T := by
    rcases h.map with ⟨q, -⟩ | ⟨r', q, q2, q3⟩
    · cases q
    · cases q; exact ⟨q2, q3⟩
  obtain ⟨t0, t1, t2, -⟩ := cellsT h
  have hl := h.look_none to_ hk
  have hes := es_size (h.ents (by simp))
  have hml := run_map_len hmap
  rw [hes] at hml
  have hnil := run_map_nil
  have H1 := Lib.hid (uni_any to_)
  have h1 : uniB to_ = true := by cases q : uniB to_ <;> simp_all
  have e2 : (to_ == c.own) = false := beq_eq_false_iff_ne.2 (fun q => hok (.inr (.inl q)))
  have e3 : decide ((1024 : Int) < (s.size : Int)) = false := decide_eq_false (fun q => hok (.inr (.inr (by omega))))
  have e4 : decide ((16 : Int) ≤ (L.length : Int)) = false := decide_eq_false (by omega)
  rw [h1] at H1
  have HT := Lib.hid h; have HM := Lib.hid hmap
  have y1 := ta_rn; have y2 := ta_in
  have hup := run_upd_new (W := ((w.alloc (.cells #[.string s] 9)).alloc (.cells #[.slice (some ⟨w.heap.size, 0, none⟩) 1 1, .int .i64 1, .int .i64 now, .int .i64 now] 176))) to_ (.iface 173 (.pointer (some ⟨w.heap.size + 1, 0, none⟩))) (block_alloc (block_alloc hmap _) _) (h.ents (by simp)) hk
  unfold tyM at hup
  obtain ⟨w7, hw7⟩ : ∃ W : World, W = { ((w.alloc (.cells #[.string s] 9)).alloc (.cells #[.slice (some ⟨w.heap.size, 0, none⟩) 1 1, .int .i64 1, .int .i64 now, .int .i64 now] 176)) with heap := ((w.alloc (.cells #[.string s] 9)).alloc (.cells #[.slice (some ⟨w.heap.size, 0, none⟩) 1 1, .int .i64 1, .int .i64 now, .int .i64 now] 176)).heap.setIfInBounds r (.map (es.push { key := .int .i64 to_, val := (.iface 173 (.pointer (some ⟨w.heap.size + 1, 0, none⟩))), born := clk }) (clk + 1)) } := ⟨_, rfl⟩
  rw [← hw7] at hup
  have HW7 := Lib.hid hw7
  have HOKK := Lib.hid hok
  have hlt := blk_lt h.tab
  clear h hmap hok h1 hes hw7
  go_enter Tryz.func22, Tryz.ntmps22
  go_upto_region 21 with (go_at_call 67; (with_reducible refine (H1.out _).mono ?_); rintro e w' ⟨rfl, rfl⟩)
  clear hup hml hnil hl t0 t1 t2 y1 y2 e2 e3 e4 H1
  obtain ⟨hT7, hsz7, hch7⟩ : Tab w7 T (some r) (es.push { key := .int .i64 to_, val := (.iface 173 (.pointer (some ⟨w.heap.size + 1, 0, none⟩))), born := clk }) (clk + 1) c (L ++ [⟨to_, .inc [s] 1 now now, w.heap.size + 1, some ⟨w.heap.size, 0, none⟩, 1⟩]) ∧ w7.heap.size = w.heap.size + 2 ∧ Chg (TOwn T (some r) L) w w7 := by
    rw [HW7.out]
    have hT6 : Tab ((w.alloc (.cells #[.string s] 9)).alloc (.cells #[.slice (some ⟨w.heap.size, 0, none⟩) 1 1, .int .i64 1, .int .i64 now, .int .i64 now] 176)) T (some r) es clk c L := HT.out.below (((Below.refl _ _).alloc (Nat.le_refl _) _).alloc (by simp) _)
    refine ⟨hT6.push (e := ⟨to_, .inc [s] 1 now now, w.heap.size + 1, some ⟨w.heap.size, 0, none⟩, 1⟩) hk ⟨alloc_new' _ _ _ (by simp), SRow.new (Nat.zero_le _) (fun _ => rfl) (block_alloc (alloc_new w _) _) rfl (by simp [maxLen]), fun a e => by cases e; show w.heap.size ≠ w.heap.size + 1; omega, by simp, by omega, hn, hn, fun x hx => by simp at hx; subst hx; exact Nat.le_of_not_lt (fun q => HOKK.out (.inr (.inr q)))⟩ (fun q hq hq2 => ?_), by show (((w.alloc _).alloc _).heap.setIfInBounds r _).size = _; simp, (((Chg.refl _ w).alloc _).alloc _).setObj (.inl (.inr (.inl rfl))) _⟩
    have := HT.out.lt hq2
    rcases hq with rfl | ⟨a, e, rfl⟩
    · dsimp only at this; omega
    · cases e; dsimp only at this; omega
  have HT7 := Lib.hid hT7; have HC7 := Lib.hid hch7
  clear hT7 hch7 HW7
  go_wp2_with fail
  refine (request_any T _ _ _ c _ to_ w7 HT7.out).mono ?_
  rintro e w8 ⟨rfl, hb8⟩
  have HB8 := Lib.hid hb8
  have hz8 := hb8.size
  clear hb8
  go_wp2_with fail
  go_ret3
  refine ⟨some ⟨w8.heap.size, 0, none⟩, 1, some r, _, _, _, rfl, mrow_one (a := req c to_) (by omega) (alloc_new w8 _), (HT7.out.below HB8.out).below ((Below.refl _ _).alloc (Nat.le_refl _) _), by simp [absL], (HC7.out.below HB8.out).alloc _, fun q hq => ⟨?_, fun ⟨a, e, e2⟩ => by cases e; subst e2; have := HT7.out.lt hq; dsimp only at this; omega⟩⟩
  rcases hq with q1 | q1 | ⟨y, hy, q1⟩
  · exact .inl (.inl q1)
  · exact .inl (.inr (.inl q1))
  · rcases List.mem_append.1 hy with hy | hy
    · exact .inl (.inr (.inr ⟨y, hy, q1⟩))
    · simp at hy; subst hy
      rcases q1 with rfl | ⟨a, e, rfl⟩
      · exact .inr (by dsimp only; omega)
      · cases e; exact .inr (Nat.le_refl _)
set_option maxHeartbeats 8000000 in
theorem send_new0 (T : Nat) (es : Array MapEntry) (clk : Nat) (c : Tc) (L : List En) (now to_ : Int) (s : ByteArray) (w : World) (h : Tab w T none es clk c L) (hs : s.size ≤ 9223372036854775807) (hok : ¬ (uniB to_ = false ∨ to_ = c.own ∨ 1024 < s.size)) (hn : In64 now) :
    Calls Tryz.prog 22 #[.pointer (some ⟨T, 0, none⟩), .int .i64 now, .int .i64 to_, .string s] w fun e w' => SendP T none L c w (absL L ++ [(to_, .inc [s] 1 now now)], 0, [req c to_], 0) e w' := by
  have hLn : L = [] := by
    rcases h.map with ⟨-, q⟩ | ⟨r', q, -, -⟩
    · exact q
    · cases q
  subst hLn
  obtain ⟨t0, t1, t2, -⟩ := cellsT h
  obtain ⟨-, z0, z1, z2, -⟩ := cells5 h.tab
  have hl := h.look_none to_ (by simp)
  have H1 := Lib.hid (uni_any to_)
  have h1 : uniB to_ = true := by cases q : uniB to_ <;> simp_all
  have e2 : (to_ == c.own) = false := beq_eq_false_iff_ne.2 (fun q => hok (.inr (.inl q)))
  have e3 : decide ((1024 : Int) < (s.size : Int)) = false := decide_eq_false (fun q => hok (.inr (.inr (by omega))))
  rw [h1] at H1
  have HT := Lib.hid h
  have y1 := ta_rn; have y2 := ta_in
  have hnil := run_map_nn
  have hmk : ∀ W, (Instr.makeMap 165 none).run Tryz.prog W = .ok (.map (some W.heap.size)) (W.alloc (.map #[] 0)) := fun _ => rfl
  have HOKK := Lib.hid hok
  have hlt := blk_lt h.tab
  clear h hok h1
  go_enter Tryz.func22, Tryz.ntmps22
  go_upto_region 20 with (go_at_call 67; (with_reducible refine (H1.out _).mono ?_); rintro e w' ⟨rfl, rfl⟩)
  have hch1 : Chg (fun q => q = T) w ((World.setCell w ⟨T, 2, none⟩ (.map (some w.heap.size))).alloc (.map #[] 0)) := (Chg.setCell (p := ⟨T, 2, none⟩) (Chg.refl (fun q => q = T) w) (.inl rfl) _).alloc _
  have hT1 : Tab ((World.setCell w ⟨T, 2, none⟩ (.map (some w.heap.size))).alloc (.map #[] 0)) T (some w.heap.size) #[] 0 c [] :=
    ⟨block_alloc (cells_eq (block_setCell (k := 2) (v := .map (some w.heap.size)) HT.out.tab) (by simp)) _, .inr ⟨_, rfl, alloc_new' _ _ _ (by simp), by omega⟩, fun _ => ⟨rfl, rfl⟩, List.nodup_nil, fun _ => ⟨fun x hx => by simp at hx, by simp⟩, fun e he => by simp at he, fun e he => by simp at he, List.Pairwise.nil⟩
  have hsz1 : w.heap.size ≤ ((World.setCell w ⟨T, 2, none⟩ (.map (some w.heap.size))).alloc (.map #[] 0)).heap.size := hch1.size
  obtain ⟨r, hr⟩ : ∃ r, w.heap.size = r := ⟨_, rfl⟩
  have HC1 := Lib.hid hch1; have HT1 := Lib.hid hT1
  clear hch1 hT1 t0 t1 t2 z0 z1 z2 hl hnil hmk y1 y2 H1 e2 e3
  rw [hr] at HT1 HC1 hsz1 ⊢
  generalize (World.setCell w ⟨T, 2, none⟩ (.map (some r))).alloc (.map #[] 0) = w1 at *
  obtain ⟨hmap, hrT⟩ : w1.heap[r]? = some (.map #[] 0) ∧ r ≠ T := by
    rcases HT1.out.map with ⟨q, -⟩ | ⟨r', q, q2, q3⟩
    · cases q
    · cases q; exact ⟨q2, q3⟩
  have hup := run_upd_new (W := ((w1.alloc (.cells #[.string s] 9)).alloc (.cells #[.slice (some ⟨w1.heap.size, 0, none⟩) 1 1, .int .i64 1, .int .i64 now, .int .i64 now] 176))) to_ (.iface 173 (.pointer (some ⟨w1.heap.size + 1, 0, none⟩))) (ks := []) (vs := []) (block_alloc (block_alloc hmap _) _) ⟨rfl, rfl⟩ (by simp)
  unfold tyM at hup
  obtain ⟨w7, hw7⟩ : ∃ W : World, W = { ((w1.alloc (.cells #[.string s] 9)).alloc (.cells #[.slice (some ⟨w1.heap.size, 0, none⟩) 1 1, .int .i64 1, .int .i64 now, .int .i64 now] 176)) with heap := ((w1.alloc (.cells #[.string s] 9)).alloc (.cells #[.slice (some ⟨w1.heap.size, 0, none⟩) 1 1, .int .i64 1, .int .i64 now, .int .i64 now] 176)).heap.setIfInBounds r (.map ((#[] : Array MapEntry).push { key := .int .i64 to_, val := (.iface 173 (.pointer (some ⟨w1.heap.size + 1, 0, none⟩))), born := 0 }) (0 + 1)) } := ⟨_, rfl⟩
  rw [← hw7] at hup
  have HW7 := Lib.hid hw7
  have HR := Lib.hid hr
  have hlt1 := blk_lt HT1.out.tab
  obtain ⟨t0, t1, t2, -⟩ := cellsT HT1.out
  clear hmap hw7 hr
  go_upto_region 21 with fail
  clear hup t0 t1 t2
  obtain ⟨hT7, hsz7, hch7⟩ : Tab w7 T (some r) ((#[] : Array MapEntry).push { key := .int .i64 to_, val := (.iface 173 (.pointer (some ⟨w1.heap.size + 1, 0, none⟩))), born := 0 }) (0 + 1) c ([] ++ [⟨to_, .inc [s] 1 now now, w1.heap.size + 1, some ⟨w1.heap.size, 0, none⟩, 1⟩]) ∧ w7.heap.size = w1.heap.size + 2 ∧ Chg (fun q => q = T ∨ q = r) w1 w7 := by
    rw [HW7.out]
    have hT6 : Tab ((w1.alloc (.cells #[.string s] 9)).alloc (.cells #[.slice (some ⟨w1.heap.size, 0, none⟩) 1 1, .int .i64 1, .int .i64 now, .int .i64 now] 176)) T (some r) #[] 0 c [] := HT1.out.below (((Below.refl _ _).alloc (Nat.le_refl _) _).alloc (by simp) _)
    refine ⟨hT6.push (e := ⟨to_, .inc [s] 1 now now, w1.heap.size + 1, some ⟨w1.heap.size, 0, none⟩, 1⟩) (by simp) ⟨alloc_new' _ _ _ (by simp), SRow.new (Nat.zero_le _) (fun _ => rfl) (block_alloc (alloc_new w1 _) _) rfl (by simp [maxLen]), fun a e => by cases e; show w1.heap.size ≠ w1.heap.size + 1; omega, by simp, by omega, hn, hn, fun x hx => by simp at hx; subst hx; exact Nat.le_of_not_lt (fun q => HOKK.out (.inr (.inr q)))⟩ (fun q hq hq2 => ?_), by show (((w1.alloc _).alloc _).heap.setIfInBounds r _).size = _; simp, (((Chg.refl _ w1).alloc _).alloc _).setObj (.inl (.inr rfl)) _⟩
    have := HT1.out.lt hq2
    rcases hq with rfl | ⟨a, e, rfl⟩
    · dsimp only at this; omega
    · cases e; dsimp only at this; omega
  have HT7 := Lib.hid hT7; have HC7 := Lib.hid hch7
  clear hT7 hch7 HW7
  go_wp2_with fail
  refine (request_any T _ _ _ c _ to_ w7 HT7.out).mono ?_
  rintro e w8 ⟨rfl, hb8⟩
  have HB8 := Lib.hid hb8
  have hz8 := hb8.size
  clear hb8
  go_wp2_with fail
  go_ret3
  have hrr := HR.out
  have hCC : Chg (TOwn T none []) w w7 := (HC1.out.mono (fun q e => .inl e)).trans HC7.out (fun q e => e.elim (fun e => .inl (.inl e)) (fun e => .inr (by omega)))
  refine ⟨some ⟨w8.heap.size, 0, none⟩, 1, some r, _, _, _, rfl, mrow_one (a := req c to_) (by omega) (alloc_new w8 _), (HT7.out.below HB8.out).below ((Below.refl _ _).alloc (Nat.le_refl _) _), by simp [absL], (hCC.below HB8.out).alloc _, fun q hq => ⟨?_, fun ⟨a, e, e2⟩ => by cases e; subst e2; have := HT7.out.lt hq; dsimp only at this; omega⟩⟩
  rcases hq with q1 | q1 | ⟨y, hy, q1⟩
  · exact .inl (.inl q1)
  · cases q1; exact .inr (by omega)
  · simp at hy; subst hy
    rcases q1 with rfl | ⟨a, e, rfl⟩
    · exact .inr (by dsimp only; omega)
    · cases e; exact .inr (by dsimp only; omega)
end Go.Proofs.YtmgjcjacoegocaaGreatDoor.Ar

namespace Go.Proofs.YtmgjcjacoegocaaGreatDoor.Ar
set_option maxRecDepth 100000
open Go.RowKit Go.Proofs.YtmgjcjacoegocaaGreatDoor.Wire

theorem setCells_stN (B : Nat) : ∀ (vs : List Value) (k : Nat) (W : World), W.setCells B k vs = stN W B k vs
  | [], _, _ => rfl
  | v :: vs, k, W => by
    show (W.setCell ⟨B, k, none⟩ v).setCells B (k + 1) vs = _
    rw [setCells_stN B vs (k + 1)]
    rfl
theorem stN_chg {B : Nat} : ∀ (vs : List Value) (k : Nat) (w : World), Chg (fun q => q = B) w (stN w B k vs)
  | [], _, w => Chg.refl _ w
  | v :: vs, k, w => ((Chg.setCell (p := ⟨B, k, none⟩) (Chg.refl (fun q => q = B) w) (.inl rfl) v).trans (stN_chg vs (k + 1) _) (fun _ e => .inl e))
/-- the row behind the removal of its first element -/
theorem trow_drop {W : World} {g cap : Nat} {l : List ByteArray} {q : Nat} (h : TRow W 0 (some ⟨g, 0, none⟩) cap l) (hl : 1 ≤ l.length) {zs : List Value} (hz : zs = (l.drop 1).map (fun s => Value.string s) ++ [.string ⟨#[]⟩]) :
    TRow ((W.drewN q).setCells g 0 zs) 0 (some ⟨g, 0, none⟩) cap (l.drop 1) := by
  rw [setCells_stN]
  obtain ⟨h0, h2⟩ := h
  rcases h2 with ⟨e, -⟩ | ⟨g', cap', cur, e, h1, h2, h3, h4, h5, h6⟩
  · cases e
  · injection e with e1 e2 e3
    injection e1 with e1; injection e1 with e1
    subst e1; subst e3
    have hzl : zs.length = l.length := by rw [hz]; simp; omega
    obtain ⟨arr', q1, q2, -, q4⟩ := stN_block zs (W.drewN q) 0 cur h2 (by rw [hzl, h5]; omega)
    refine ⟨encs_length 1 strC (fun _ => rfl) _, .inr ⟨g, cap, arr', rfl, Nat.zero_le _, q1, by simp; omega, h4, by rw [q2]; exact h5, ?_⟩⟩
    apply List.ext_getElem?
    intro i
    have hfl : (l.drop 1).flatMap strC = (l.drop 1).map (fun s => Value.string s) := by
      induction l.drop 1 with
      | nil => rfl
      | cons a l ih => simp [ih]
    rw [hfl]
    by_cases hi : i < (l.drop 1).length
    · rw [List.getElem?_take_of_lt (by omega), Array.getElem?_toList]
      have hv : zs[i]? = some (.string (l.drop 1)[i]) := by
        rw [hz, List.getElem?_append_left (by simpa using hi)]
        simp
      have := q4 i _ hv
      rw [Nat.zero_add] at this
      rw [this, List.getElem?_map, List.getElem?_eq_getElem hi]; rfl
    · rw [List.getElem?_eq_none (by simp at hi ⊢; omega), List.getElem?_eq_none (by simp at hi ⊢; omega)]
theorem strs_list (l : List ByteArray) (n : Nat) (hn : l.length = n) : ((Lib.strsOf (fun i => l.getD i ⟨#[]⟩) n).take 0 ++ (Lib.strsOf (fun i => l.getD i ⟨#[]⟩) n).drop 1 ++ List.replicate (1 - 0) []).map (fun (l : List UInt8) => Value.string ⟨l.toArray⟩) = (l.drop 1).map (fun s => Value.string s) ++ [.string ⟨#[]⟩] := by
  have e : (Lib.strsOf (fun i => l.getD i ⟨#[]⟩) n) = l.map (fun s => s.data.toList) := by
    unfold Lib.strsOf
    apply List.ext_getElem?
    intro i
    simp only [List.getElem?_map]
    by_cases h : i < n
    · rw [List.getElem?_eq_getElem (by simpa using h), List.getElem?_eq_getElem (show i < l.length by omega)]
      simp [List.getD, List.getElem?_eq_getElem (show i < l.length by omega)]
    · rw [List.getElem?_eq_none (by simp; omega), List.getElem?_eq_none (by omega)]; rfl
  rw [e]
  have e2 : ((fun (l : List UInt8) => Value.string ⟨l.toArray⟩) ∘ fun s : ByteArray => s.data.toList) = fun s => Value.string s := by funext x; rfl
  simp [e2]
theorem last4_no {l : List ByteArray} (h : l.length ≤ 4) : last4 l = l := by unfold last4; rw [if_neg (by omega)]
theorem last4_yes {l : List ByteArray} (h : l.length = 5) : last4 l = l.drop 1 := by unfold last4; rw [if_pos (by omega)]
set_option maxHeartbeats 8000000 in
theorem send_inc (T : Nat) (m : Option Nat) (es : Array MapEntry) (clk : Nat) (c : Tc) (L : List En) (now to_ : Int) (s : ByteArray) (w : World) (h : Tab w T m es clk c L) (hs : s.size ≤ 9223372036854775807) (hok : ¬ (uniB to_ = false ∨ to_ = c.own ∨ 1024 < s.size)) {j : Nat} {held : List ByteArray} {sent first last : Int} {eb : Nat} {Hb : Option Addr} {hc : Nat} (hj : L[j]? = some ⟨to_, .inc held sent first last, eb, Hb, hc⟩) :
    Calls Tryz.prog 22 #[.pointer (some ⟨T, 0, none⟩), .int .i64 now, .int .i64 to_, .string s] w fun e w' => SendP T m L c w (upd (absL L) to_ (.inc (last4 (held ++ [s])) sent first last), 0, [], 0) e w' := by
  have hmem := List.mem_of_getElem? hj
  have hE := h.ok _ hmem
  obtain ⟨hblk, hrow, hne, hlen, hsent, hf1, hf2, hszs⟩ := hE
  obtain ⟨t0, -, t2, -⟩ := cellsT h
  have hl := h.look_some hj
  unfold En.val at hl
  dsimp only [Ev.ty] at hl hblk hrow hne
  have H1 := Lib.hid (uni_any to_)
  have h1 : uniB to_ = true := by cases q : uniB to_ <;> simp_all
  have e2 : (to_ == c.own) = false := beq_eq_false_iff_ne.2 (fun q => hok (.inr (.inl q)))
  have hs4 : s.size ≤ 1024 := Nat.le_of_not_lt (fun q => hok (.inr (.inr q)))
  have e3 : decide ((1024 : Int) < (s.size : Int)) = false := decide_eq_false (by omega)
  rw [h1] at H1
  obtain ⟨⟨r0, r1, r2, r3⟩, z0, z1, z2, z3⟩ := cells4 hblk
  have hT : T ≠ eb := fun e => (h.eo _ hmem eb (.inl rfl)).1 e.symm
  have hltb := blk_lt hblk
  have HT := Lib.hid h; have HJ := Lib.hid hj; have HBL := Lib.hid hblk; have HR := Lib.hid hrow; have HNE := Lib.hid hne; have HSZ := Lib.hid hszs
  obtain ⟨N, hN⟩ : ∃ N, held.length = N := ⟨_, rfl⟩
  have HN := Lib.hid hN
  rw [hN] at r0 hlen
  have y1 := ta_ri; have y2 := ta_ii
  obtain ⟨i0, hi, hz0, hz1, hz2⟩ := info_parts infoStr
  have HI := Lib.hid hi; have HZ0 := Lib.hid hz0; have HZ1 := Lib.hid hz1; have HZ2 := Lib.hid hz2
  have hOw : w.ownsRow 0 9 1 (.slice Hb N hc) N (held.flatMap strC) := by have := HR.out; unfold TRow SRow at this; rw [hN] at this; exact this
  have HOW := Lib.hid hOw
  clear h hj hmem hok h1 hblk hrow hne hN hi hz0 hz1 hz2 hOw hszs
  go_enter Tryz.func22, Tryz.ntmps22
  go_upto_region 13 with (first | (go_at_call 67; (with_reducible refine (H1.out _).mono ?_); rintro e w' ⟨rfl, rfl⟩) | (at_builtin; refine wpList_append_lies _ rfl (.tmp 55) (.tmp 57) 174 rfl 0 9 i0 (.string ⟨#[]⟩) 1 16 Tryz.underlying174 HI.out HZ0.out HZ1.out HZ2.out rfl (by decide) (.slice Hb N hc) N _ rfl (HOW.out.alloc _) ⟨w.heap.size, 0, none⟩ 1 1 [.string s] rfl rfl (World.news_of_block (heap_alloc_new w _)) (by simp [Value.oneCell']) (by omega) (by unfold maxLen; omega) (by omega) (by simp) (w.heap.size + 1) (by simp) ?_; intro g cap w7 hown hgrow hat hlt; have HB7 := Lib.hid ((hgrow.block eb (by simp; omega) (fun e => by obtain ⟨a, e1, e2⟩ := ob_bk e.symm; exact HNE.out a e1 e2)).trans (block_alloc HBL.out _)); obtain ⟨⟨s0, -, -, -⟩, x0, -, -, -⟩ := cells4 HB7.out))
  obtain ⟨l, hll⟩ : ∃ l, held ++ [s] = l := ⟨_, rfl⟩
  have hlen5 : l.length = N + 1 := by rw [← hll]; simp [HN.out]
  have hgne : g ≠ eb := by
    rcases hat with q | q
    · obtain ⟨a, e1, e2⟩ := ob_bk q
      rw [← e2]; exact HNE.out a e1
    · omega
  have hgown : ∀ q, q = g → (∃ a, Hb = some a ∧ a.block = q) ∨ w.heap.size ≤ q := by
    rintro q rfl
    rcases hat with q | q
    · exact .inl (ob_bk q)
    · exact .inr (by omega)
  have hrow7 : TRow w7 0 (some ⟨g, 0, none⟩) cap l := by
    rw [← hll]
    exact SRow.app (x := s) (by rw [HN.out]; exact hown)
  have hch7 : Chg (fun q => q = eb ∨ ∃ a, Hb = some a ∧ a.block = q) w w7 := ((Chg.refl _ w).alloc _).trans (S' := fun q => ∃ a, Hb = some a ∧ a.block = q) (Chg.grown hgrow (fun q e => ob_bk e)) (fun q hq => .inl (.inr hq))
  have hch8 : Chg (fun q => q = eb ∨ ∃ a, Hb = some a ∧ a.block = q) w (World.setCell w7 ⟨eb, 0, none⟩ (.slice (some ⟨g, 0, none⟩) (N + 1) cap)) := Chg.setCell (p := ⟨eb, 0, none⟩) hch7 (.inl (.inl rfl)) _
  have hb8 : (World.setCell w7 ⟨eb, 0, none⟩ (.slice (some ⟨g, 0, none⟩) (N + 1) cap)).heap[eb]? = some (.cells #[.slice (some ⟨g, 0, none⟩) (N + 1) cap, .int .i64 sent, .int .i64 first, .int .i64 last] 176) := cells_eq (block_setCell (k := 0) (v := .slice (some ⟨g, 0, none⟩) (N + 1) cap) HB7.out) (by simp)
  have hr8 : TRow (World.setCell w7 ⟨eb, 0, none⟩ (.slice (some ⟨g, 0, none⟩) (N + 1) cap)) 0 (some ⟨g, 0, none⟩) cap l := hrow7.kept (fun a e => by cases e; exact Below.heap_setCell _ _ _ _ (by show g ≠ eb; exact hgne))
  have HC8 := Lib.hid hch8; have HB8 := Lib.hid hb8; have HR8 := Lib.hid hr8; have HGO := Lib.hid hgown; have HLL := Lib.hid hll; have HSL : Hid (∀ x ∈ l, x.size ≤ 1024) := Lib.hid (fun x hx => by
    rw [← hll] at hx
    rcases List.mem_append.1 hx with q | q
    · exact HSZ.out x q
    · simp at q; subst q; exact hs4)
  clear hl H1 e2 e3 r0 r1 r2 r3 z0 z1 z2 z3 hown hgrow hat hlt HB7 s0 x0 hrow7 hch7 hch8 hb8 hr8 hgown y1 y2 t0 t2 HOW HI HZ0 HZ1 HZ2 hll
  generalize World.setCell w7 ⟨eb, 0, none⟩ (.slice (some ⟨g, 0, none⟩) (N + 1) cap) = w8 at *
  obtain ⟨⟨r0, -, -, -⟩, z0, -, -, -⟩ := cells4 HB8.out
  have fin : ∀ (W : World) (l' : List ByteArray), l'.length ≤ 4 → (∀ x ∈ l', x.size ≤ 1024) → W.heap[eb]? = some (.cells #[.slice (some ⟨g, 0, none⟩) l'.length cap, .int .i64 sent, .int .i64 first, .int .i64 last] 176) → TRow W 0 (some ⟨g, 0, none⟩) cap l' → Chg (fun q => q = eb ∨ ∃ a, Hb = some a ∧ a.block = q) w W → last4 (held ++ [s]) = l' → SendP T m L c w (upd (absL L) to_ (.inc (last4 (held ++ [s])) sent first last), 0, [], 0) (.returned (.tuple #[.int .i64 0, .slice none 0 0, .int .i64 0])) W := by
    intro W l' h1 h2 h3 h4 h5 h6
    rw [h6]
    obtain ⟨hT9, hown9⟩ := HT.out.setE (S := fun q => q = eb ∨ ∃ a, Hb = some a ∧ a.block = q) (W' := W) HJ.out (e' := ⟨to_, .inc l' sent first last, eb, some ⟨g, 0, none⟩, cap⟩) rfl rfl ⟨h3, h4, fun a e => by cases e; exact hgne, h1, hsent, hf1, hf2, h2⟩ h5 (fun q e => e) (fun q hq => by
      rcases hq with e | ⟨a, e, e2⟩
      · exact .inl (.inl e)
      · cases e; exact (HGO.out q e2.symm).imp .inr id)
    have hmem := List.mem_of_getElem? HJ.out
    exact ⟨none, 0, m, es, clk, _, rfl, SRow.nil _ _ _ _ _, hT9, abs_set HT.out.nod HJ.out rfl, h5.mono (fun q e => .inr (.inr ⟨_, hmem, e⟩)), fun q hq => ⟨hown9 q hq, bk_none q⟩⟩
  have FIN := Lib.hid fin
  clear fin
  by_cases h4 : N + 1 ≤ 4
  · have d4 : decide ((4 : Int) < ((N + 1 : Nat) : Int)) = false := decide_eq_false (by omega)
    go_wp2_with fail
    go_ret3
    exact FIN.out w8 l (by omega) HSL.out (by rw [hlen5]; exact HB8.out) HR8.out HC8.out (by rw [HLL.out]; exact last4_no (by omega))
  · obtain rfl : N = 4 := by omega
    have hcp : 5 ≤ cap := by have := HR8.out.cap; omega
    have hcm : cap ≤ 9223372036854775807 := by
      rcases HR8.out.2 with ⟨e, -⟩ | ⟨g', cap', cur, e, -, -, -, q, -⟩
      · cases e
      · injection e with e1 e2 e3; unfold maxLen at q; omega
    have hgl : g < w8.heap.size := (HR8.out.bk rfl).2
    have hcell : ∀ i, i < 5 → w8.cell? ⟨g, 0 + i, none⟩ = some (.string ((fun i => l.getD i ⟨#[]⟩) i)) := fun i hi => by
      have hi' : l[i]? = some (l.getD i ⟨#[]⟩) := by rw [List.getD_eq_getElem?_getD, List.getElem?_eq_getElem (by omega)]; rfl
      have := HR8.out.cell (fun _ => rfl) rfl hi' (r := 0) (by omega) rfl
      simpa using this
    have hfr : ∀ i, i < 5 → w8.frozen? ⟨g, 0 + i, none⟩ = false := fun i hi => by
      rcases HR8.out.2 with ⟨e, -⟩ | ⟨g', cap', cur, e, -, q, -, -, q5, -⟩
      · cases e
      · injection e with e1 e2 e3; injection e1 with e1; injection e1 with e1
        subst e1; subst e3
        exact (cell_of_block q (List.getElem?_eq_getElem (show 0 + i < cur.size by omega) |> fun _ => Array.getElem?_eq_getElem (show 0 + i < cur.size by omega))).2
    have HDEL := Lib.hid (Tryz.slices_Delete_string_cells g 0 5 cap 0 1 (fun i => l.getD i ⟨#[]⟩) w8 hcp hcm (by omega) (by omega) hcell hfr)
    clear hcell hfr
    go_wp2_with fail
    refine HDEL.out.mono ?_
    rintro e w9 ⟨rfl, q, hw9⟩
    have hsl := strs_list l 5 hlen5
    have hr9 : TRow w9 0 (some ⟨g, 0, none⟩) cap (l.drop 1) := by
      rw [hw9]
      exact trow_drop HR8.out (by omega) hsl
    have hc9 : Chg (fun q => q = g) w8 w9 := by
      rw [hw9, setCells_stN]
      exact (Chg.trans (S := fun q => q = g) (S' := fun q => q = g) (⟨rfl, rfl, rfl, Nat.le_refl _, fun _ _ _ => rfl⟩ : Chg (fun q => q = g) w8 (w8.drewN q)) (stN_chg _ _ _) (fun _ e => .inl e))
    have hlt8 : eb < w8.heap.size := blk_lt HB8.out
    have hb9 : w9.heap[eb]? = _ := (hc9.block eb hlt8 (fun e => hgne e.symm)).trans HB8.out
    have hc09 : Chg (fun q => q = eb ∨ ∃ a, Hb = some a ∧ a.block = q) w w9 := HC8.out.trans hc9 (fun q e => (HGO.out q e).imp .inr id)
    have HR9 := Lib.hid hr9; have HC9 := Lib.hid hc09; have HB9 := Lib.hid hb9
    clear hw9 hsl hr9 hc9 hc09 hb9 r0 z0 HDEL
    obtain ⟨⟨r0, -, -, -⟩, z0, -, -, -⟩ := cells4 HB9.out
    go_wp2_with fail
    go_ret3
    refine FIN.out _ (l.drop 1) (by simp; omega) (fun x hx => HSL.out x (List.mem_of_mem_drop hx)) ?_ (HR9.out.kept (fun a e => by cases e; exact Below.heap_setCell _ _ _ _ (by show g ≠ eb; exact hgne))) (Chg.setCell (p := ⟨eb, 0, none⟩) HC9.out (.inl (.inl rfl)) _) (by rw [HLL.out]; exact last4_yes hlen5)
    exact cells_eq (block_setCell (k := 0) HB9.out) (by simp; omega)
end Go.Proofs.YtmgjcjacoegocaaGreatDoor.Ar

namespace Go.Proofs.YtmgjcjacoegocaaGreatDoor.Ar
set_option maxRecDepth 100000
open Go.RowKit Go.Proofs.YtmgjcjacoegocaaGreatDoor.Wire

/-- how many packets wait at an entry -/
def Ev.n : Ev → Int
  | .inc held _ _ _ => held.length
  | .res .. => 0
def En.n (e : En) : Int := e.v.n
theorem En.n_bd {W : World} {e : En} (h : e.ok W) : 0 ≤ e.n ∧ e.n ≤ 4 := by
  obtain ⟨k, v, eb, Hb, hc⟩ := e
  cases v with
  | inc held sent first last =>
    have := h.2.2.2.1
    unfold En.n Ev.n
    dsimp only at this ⊢; omega
  | res mac since used => unfold En.n Ev.n; dsimp only; omega
/-- the pending packets of the entries that have not been seen -/
def sumU : List MapEntry → List En → Array Nat → Int
  | x :: l, e :: L, s => (if s.contains x.born then 0 else e.n) + sumU l L s
  | _, _, _ => 0
theorem sumU_push_other : ∀ (l : List MapEntry) (L : List En) (s : Array Nat) (b : Nat), b ∉ l.map (·.born) → sumU l L (s.push b) = sumU l L s
  | [], L, s, b, _ => by cases L <;> rfl
  | x :: l, [], s, b, _ => rfl
  | x :: l, e :: L, s, b, h => by
    simp only [List.map_cons, List.mem_cons, not_or] at h
    simp only [sumU, sumU_push_other l L s b h.2]
    congr 1
    have : (s.push b).contains x.born = s.contains x.born := by
      rw [Bool.eq_iff_iff]
      simp only [Array.contains_iff_mem, Array.mem_push]
      exact ⟨fun q => q.resolve_right (fun r => h.1 r.symm), .inl⟩
    rw [this]
theorem sumU_step : ∀ (l : List MapEntry) (L : List En) (s : Array Nat) (x : MapEntry), l.map (·.val) = L.map En.val → (l.map (·.born)).Nodup → x ∈ l → s.contains x.born = false →
    ∃ e ∈ L, x.val = e.val ∧ sumU l L s = e.n + sumU l L (s.push x.born)
  | [], _, _, _, _, _, hx, _ => by cases hx
  | y :: l, [], _, _, h, _, _, _ => by cases h
  | y :: l, e :: L, s, x, h, hn, hx, hs => by
    simp only [List.map_cons, List.cons.injEq, List.nodup_cons] at h hn
    rcases List.mem_cons.1 hx with rfl | hx
    · refine ⟨e, List.mem_cons_self .., h.1, ?_⟩
      simp only [sumU, hs, sumU_push_other l L s x.born hn.1]
      simp
    · obtain ⟨f, hf, h1, h2⟩ := sumU_step l L s x h.2 hn.2 hx hs
      refine ⟨f, List.mem_cons_of_mem _ hf, h1, ?_⟩
      have hne : x.born ≠ y.born := fun q => hn.1 (by rw [← q]; exact List.mem_map.2 ⟨x, hx, rfl⟩)
      have : (s.push x.born).contains y.born = s.contains y.born := by
        rw [Bool.eq_iff_iff]
        simp only [Array.contains_iff_mem, Array.mem_push]
        exact ⟨fun q => q.resolve_right (fun r => hne r.symm), .inl⟩
      simp only [sumU, this, h2]
      omega
theorem sumU_done : ∀ (l : List MapEntry) (L : List En) (s : Array Nat), (∀ x ∈ l, s.contains x.born = true) → sumU l L s = 0
  | [], L, s, _ => by cases L <;> rfl
  | x :: l, [], s, _ => rfl
  | x :: l, e :: L, s, h => by
    simp only [sumU, h x (List.mem_cons_self ..), if_true, Int.zero_add]
    exact sumU_done l L s (fun y hy => h y (List.mem_cons_of_mem _ hy))
def sumC (L : List En) : Int := (L.map fun e => e.n).foldr (· + ·) 0
theorem sumU_start : ∀ (l : List MapEntry) (L : List En), l.length = L.length → sumU l L #[] = sumC L
  | [], [], _ => rfl
  | [], _ :: _, h => by simp at h
  | _ :: _, [], h => by simp at h
  | x :: l, e :: L, h => by
    simp only [List.length_cons, Nat.add_right_cancel_iff] at h
    simp [sumU, sumC, sumU_start l L h]
theorem sumU_bound : ∀ (l : List MapEntry) (L : List En) (s : Array Nat), (∀ e ∈ L, 0 ≤ e.n ∧ e.n ≤ 4) → 0 ≤ sumU l L s ∧ sumU l L s ≤ sumC L
  | [], [], s, _ => ⟨Int.le_refl _, Int.le_refl _⟩
  | [], e :: L, s, h => by
    have := sumU_bound [] L s (fun e he => h e (List.mem_cons_of_mem _ he))
    have h0 : sumU [] L s = 0 := by cases L <;> rfl
    have := h e (List.mem_cons_self ..)
    simp [sumU, sumC] at *; omega
  | _ :: _, [], s, _ => ⟨Int.le_refl _, Int.le_refl _⟩
  | x :: l, e :: L, s, h => by
    have := sumU_bound l L s (fun e he => h e (List.mem_cons_of_mem _ he))
    have := h e (List.mem_cons_self ..)
    simp only [sumU, sumC, List.map_cons, List.foldr_cons] at *
    split <;> omega
theorem sumC_bound : ∀ (L : List En), (∀ e ∈ L, 0 ≤ e.n ∧ e.n ≤ 4) → 0 ≤ sumC L ∧ sumC L ≤ 4 * (L.length : Int)
  | [], _ => ⟨Int.le_refl _, Int.le_refl _⟩
  | e :: L, h => by
    have := sumC_bound L (fun e he => h e (List.mem_cons_of_mem _ he))
    have := h e (List.mem_cons_self ..)
    simp only [sumC, List.map_cons, List.foldr_cons, List.length_cons] at *
    omega
def leftAt (es : Array MapEntry) (W : World) (r : Nat) : Nat := match W.heap[r]? with | some (.mapIter _ _ seen _) => (leftOf es seen).size | _ => 0
theorem leftAt_of {es : Array MapEntry} {W : World} {r : Nat} {a : Option Nat} {s : Nat} {seen : Array Nat} {c : Nat} (h : W.heap[r]? = some (.mapIter a s seen c)) : leftAt es W r = (leftOf es seen).size := by unfold leftAt; rw [h]
theorem run_map_len' {W : World} {r clk : Nat} {es : Array MapEntry} (h : W.heap[r]? = some (.map es clk)) {ty : TypeId} : (Builtin.len_ #[165] ty #[.map (some r)]).run Tryz.prog W = .ok (.int .i64 es.size) W := by
  have hu : Tryz.prog.underlying 165 = some (.map 3 169) := underM
  unfold Builtin.len_
  simp [run_underlying hu, Go.MapKept.run_getObj_map h, Result.andThen, goInt]
end Go.Proofs.YtmgjcjacoegocaaGreatDoor.Ar

namespace Go.Proofs.YtmgjcjacoegocaaGreatDoor.Ar
set_option maxRecDepth 100000
open Go.RowKit Go.Proofs.YtmgjcjacoegocaaGreatDoor.Wire

structure OneA (w : World) (T : Nat) (c : Tc) (A : AL) (K : Nat → Prop) (W : World) : Prop where
  ex : ∃ (m : Option Nat) (es : Array MapEntry) (clk : Nat) (L : List En), Tab W T m es clk c L ∧ absL L = A ∧ ∀ q, TOwn T m L q → w.heap.size ≤ q ∧ ¬ K q
  bel : Below w.heap.size w W
/-- the blocks K stand -/
def Kept (K : Nat → Prop) (W W' : World) : Prop := W.heap.size ≤ W'.heap.size ∧ ∀ q, K q → q < W.heap.size → W'.heap[q]? = W.heap[q]?
theorem Kept.below {K : Nat → Prop} {W W' : World} (h : Below W.heap.size W W') : Kept K W W' := ⟨h.size, fun q _ hq => h.block q hq⟩
/-- how many packets wait in all -/
def sumA (A : AL) : Int := (A.map fun x => x.2.n).foldr (· + ·) 0
theorem sumC_abs (L : List En) : sumC L = sumA (absL L) := by
  unfold sumC sumA absL
  rw [List.map_map]; rfl
section
variable {w W W' : World} {T : Nat} {c : Tc} {A : AL} {K : Nat → Prop}
theorem OneA.below (h : OneA w T c A K W) (hb : Below W.heap.size W W') : OneA w T c A K W' := by
  obtain ⟨m, es, clk, L, h1, h2, h3⟩ := h.ex
  exact ⟨⟨m, es, clk, L, h1.below hb, h2, h3⟩, below_call h.bel hb⟩
theorem OneA.more (h : OneA w T c A K W) {K' : Nat → Prop} (hk : ∀ q, K' q → K q ∨ W.heap.size ≤ q) : OneA w T c A K' W := by
  obtain ⟨m, es, clk, L, h1, h2, h3⟩ := h.ex
  refine ⟨⟨m, es, clk, L, h1, h2, fun q hq => ⟨(h3 q hq).1, fun r => ?_⟩⟩, h.bel⟩
  rcases hk q r with s | s
  · exact (h3 q hq).2 s
  · have := h1.lt hq; omega
theorem OneA.ofNew (hb : Below w.heap.size w W) (own mac : Int) : OneA w W.heap.size ⟨own, mac, false, 0⟩ [] (fun q => q < W.heap.size) (W.alloc (.cells #[.int .i64 own, .int .i64 mac, .map none, .bool false, .int .i64 0] 167)) := by
  refine ⟨⟨none, #[], 0, [], ⟨alloc_new W _, .inl ⟨rfl, rfl⟩, fun h => absurd rfl h, List.nodup_nil, fun h => absurd rfl h, fun e he => by simp at he, fun e he => by simp at he, List.Pairwise.nil⟩, rfl, ?_⟩, below_alloc hb⟩
  rintro q (rfl | q1 | ⟨e, he, -⟩)
  · exact ⟨hb.size, by omega⟩
  · cases q1
  · simp at he
theorem OneA.tab_lt (h : OneA w T c A K W) : T < W.heap.size ∧ w.heap.size ≤ T := by
  obtain ⟨m, es, clk, L, h1, h2, h3⟩ := h.ex
  exact ⟨h1.lt (.inl rfl), (h3 T (.inl rfl)).1⟩
theorem OneA.after {S : Nat → Prop} {m' : Option Nat} {es' : Array MapEntry} {clk' : Nat} {c' : Tc} {L' : List En} {K' : Nat → Prop} (h : OneA w T c A K W) (ht : Tab W' T m' es' clk' c' L') (hS : ∀ q, S q → w.heap.size ≤ q ∧ ¬ K q) (hc : Chg S W W') (hn : ∀ q, TOwn T m' L' q → (S q ∨ W.heap.size ≤ q) ∧ ¬ K' q) :
    OneA w T c' (absL L') (fun q => (K q ∧ q < W.heap.size) ∨ K' q) W' ∧ Kept K W W' := by
  have hz := h.bel.size
  refine ⟨⟨⟨m', es', clk', L', ht, rfl, fun q hq => ?_⟩, ?_⟩, hc.size, fun q hk hq => hc.block q hq (fun r => (hS q r).2 hk)⟩
  · obtain ⟨q1, q2⟩ := hn q hq
    rcases q1 with r | r
    · exact ⟨(hS q r).1, fun s => s.elim (fun s => (hS q r).2 s.1) q2⟩
    · exact ⟨by omega, fun s => s.elim (fun s => by omega) q2⟩
  · exact ⟨hc.os.trans h.bel.os, hc.tape.trans h.bel.tape, hc.output.trans h.bel.output, Nat.le_trans hz hc.size, fun k hk => (hc.block k (by omega) (fun r => by have := (hS k r).1; omega)).trans (h.bel.block k hk)⟩
theorem OneA.recv (h : OneA w T c A K W) (now op f fm t tm : Int) (c' : Tc) (A' : AL) (out : List Am) (held : List Hp) (he : recvA c A now ⟨op, f, fm, t, tm⟩ = (c', A', out, held)) (h1 : In64 now) (h2 : In64 c.at_) :
    Calls Tryz.prog 25 #[.pointer (some ⟨T, 0, none⟩), .int .i64 now, .agg #[.int .i64 op, .int .i64 f, .int .i64 fm, .int .i64 t, .int .i64 tm]] W fun x W' =>
      ∃ (B : Option Addr) (k : Nat) (D : Option Addr) (d : Nat), x = .returned (.tuple #[.slice B out.length k, .slice D held.length d]) ∧ MRow W' W.heap.size B k out ∧ HRow W' W.heap.size D d held ∧ OneA w T c' A' (fun q => (K q ∧ q < W.heap.size) ∨ BK B q ∨ BK D q) W' ∧ Kept K W W' := by
  obtain ⟨m, es, clk, L, ht, ha, h3⟩ := h.ex
  refine (receive_any T m es clk c L now op f fm t tm W ht h1 h2).mono ?_
  intro x W' hx
  rw [ha, he] at hx
  obtain ⟨B, k, D, d, m', es', clk', L', rfl, hm, hh, ht', ha', hc, hn⟩ := hx
  obtain ⟨q1, q2⟩ := h.after (K' := fun q => BK B q ∨ BK D q) ht' h3 hc (fun q hq => ⟨(hn q hq).1, fun s => s.elim (hn q hq).2.1 (hn q hq).2.2⟩)
  rw [ha'] at q1
  exact ⟨B, k, D, d, rfl, hm, hh, q1, q2⟩
theorem OneA.send (h : OneA w T c A K W) (now to_ : Int) (s : ByteArray) (A' : AL) (mac : Int) (out : List Am) (err : Int) (he : sendA c A now to_ s = (A', mac, out, err)) (hs : s.size ≤ 9223372036854775807) (hn : In64 now) (hroom : A.length < 16) :
    Calls Tryz.prog 22 #[.pointer (some ⟨T, 0, none⟩), .int .i64 now, .int .i64 to_, .string s] W fun x W' =>
      ∃ (B : Option Addr) (k : Nat), x = .returned (.tuple #[.int .i64 mac, .slice B out.length k, .int .i64 err]) ∧ MRow W' W.heap.size B k out ∧ OneA w T c A' (fun q => (K q ∧ q < W.heap.size) ∨ BK B q) W' ∧ Kept K W W' := by
  obtain ⟨m, es, clk, L, ht, ha, h3⟩ := h.ex
  have hL : L.length < 16 := by have := congrArg List.length ha; unfold absL at this; simp at this; omega
  have key : Calls Tryz.prog 22 #[.pointer (some ⟨T, 0, none⟩), .int .i64 now, .int .i64 to_, .string s] W fun e w' => SendP T m L c W (sendA c (absL L) now to_ s) e w' := by
    unfold sendA
    by_cases hb : uniB to_ = false ∨ to_ = c.own ∨ 1024 < s.size
    · rw [if_pos hb]
      refine (send_bad T m es clk c L now to_ s W ht hs hb).mono ?_
      rintro x W' ⟨rfl, rfl⟩
      exact ⟨none, 0, m, es, clk, L, rfl, SRow.nil _ _ _ _ _, ht, rfl, Chg.refl _ _, fun q hq => ⟨.inl hq, bk_none q⟩⟩
    · rw [if_neg hb]
      by_cases hk : to_ ∈ L.map (·.k)
      · obtain ⟨x, hx, hxk⟩ := List.mem_map.1 hk
        obtain ⟨j, hj⟩ := List.getElem?_of_mem hx
        obtain ⟨k, v, eb, Hb, hc⟩ := x
        dsimp only at hxk
        subst hxk
        have hlk := look_at ht.nod hj
        dsimp only at hlk
        rw [hlk]
        cases v with
        | inc held sent first last => exact send_inc T m es clk c L now k s W ht hs hb hj
        | res mc since used => exact send_res T m es clk c L now k s W ht hs hb hn hj
      · rw [look_no hk]
        cases m with
        | none => exact send_new0 T es clk c L now to_ s W ht hs hb hn
        | some r => exact send_new T r es clk c L now to_ s W ht hs hb hn hk hL
  refine key.mono ?_
  intro x W' hx
  rw [ha, he] at hx
  obtain ⟨B, k, m', es', clk', L', rfl, hm, ht', ha', hc, hn'⟩ := hx
  obtain ⟨q1, q2⟩ := h.after (K' := fun q => BK B q) ht' h3 hc hn'
  rw [ha'] at q1
  exact ⟨B, k, rfl, hm, q1, q2⟩
end
end Go.Proofs.YtmgjcjacoegocaaGreatDoor.Ar

namespace Go.Proofs.YtmgjcjacoegocaaGreatDoor.Ar
set_option maxRecDepth 100000
open Go.RowKit Go.Proofs.YtmgjcjacoegocaaGreatDoor.Wire

def encM (a : Am) : List UInt8 := be 1 a.op ++ be 4 a.f ++ be 2 a.fm ++ be 4 a.t ++ be 2 a.tm
theorem encM_len (a : Am) : (encM a).length = 13 := by simp [encM, be_length]
def pre (a : Am) : Nat → List UInt8
  | 0 => []
  | 1 => be 1 a.op
  | 2 => be 1 a.op ++ be 4 a.f
  | 3 => be 1 a.op ++ be 4 a.f ++ be 2 a.fm
  | 4 => be 1 a.op ++ be 4 a.f ++ be 2 a.fm ++ be 4 a.t
  | _ => encM a
def offs : Nat → Int
  | 0 => 0
  | 1 => 1
  | 2 => 5
  | 3 => 7
  | 4 => 11
  | _ => 13
def msgOf (s : ByteArray) : Am := ⟨(num (bytesAt s 0 1)), (num (bytesAt s 1 4)), (num (bytesAt s 5 2)), (num (bytesAt s 7 4)), (num (bytesAt s 11 2))⟩
def got (s : ByteArray) : Nat → Array Value
  | 0 => #[.int .i64 0, .int .i64 0, .int .i64 0, .int .i64 0, .int .i64 0]
  | 1 => #[.int .i64 (num (bytesAt s 0 1)), .int .i64 0, .int .i64 0, .int .i64 0, .int .i64 0]
  | 2 => #[.int .i64 (num (bytesAt s 0 1)), .int .i64 (num (bytesAt s 1 4)), .int .i64 0, .int .i64 0, .int .i64 0]
  | 3 => #[.int .i64 (num (bytesAt s 0 1)), .int .i64 (num (bytesAt s 1 4)), .int .i64 (num (bytesAt s 5 2)), .int .i64 0, .int .i64 0]
  | 4 => #[.int .i64 (num (bytesAt s 0 1)), .int .i64 (num (bytesAt s 1 4)), .int .i64 (num (bytesAt s 5 2)), .int .i64 (num (bytesAt s 7 4)), .int .i64 0]
  | _ => #[.int .i64 (num (bytesAt s 0 1)), .int .i64 (num (bytesAt s 1 4)), .int .i64 (num (bytesAt s 5 2)), .int .i64 (num (bytesAt s 7 4)), .int .i64 (num (bytesAt s 11 2))]
theorem encode_no (op f fm t tm : Int) (w : World) (h : ¬ (⟨op, f, fm, t, tm⟩ : Am).ok) :
    Calls Tryz.prog 23 #[.agg #[.int .i64 op, .int .i64 f, .int .i64 fm, .int .i64 t, .int .i64 tm]] w fun e w' => e = .returned (.tuple #[.string ⟨#[]⟩, .int .i64 50]) ∧ Below w.heap.size w w' := by
  have e1 : Am.okB ⟨op, f, fm, t, tm⟩ = false := by
    cases q : Am.okB ⟨op, f, fm, t, tm⟩ with
    | false => rfl
    | true => exact absurd ((Am.okB_iff _).1 q) h
  clear h
  go_enter Tryz.func23, Tryz.ntmps23
  obtain ⟨⟨a0, a1, a2, a3, a4⟩, -⟩ := cells5 (alloc_new w (.cells #[.int .i64 op, .int .i64 f, .int .i64 fm, .int .i64 t, .int .i64 tm] 79))
  go_wp2_with fail
  refine (valid_any op f fm t tm _).mono ?_
  rintro e w2 ⟨rfl, hb⟩
  rw [e1]
  clear a0 a1 a2 a3 a4
  go_wp2_with fail
  go_ret2
  exact ⟨rfl, below_call (below_alloc (Below.refl _ _)) hb⟩
set_option maxHeartbeats 8000000 in
theorem encode_ok (op f fm t tm : Int) (w : World) (h : (⟨op, f, fm, t, tm⟩ : Am).ok) :
    Calls Tryz.prog 23 #[.agg #[.int .i64 op, .int .i64 f, .int .i64 fm, .int .i64 t, .int .i64 tm]] w fun e w' => e = .returned (.tuple #[.string ⟨(encM ⟨op, f, fm, t, tm⟩).toArray⟩, .int .i64 0]) ∧ Below w.heap.size w w' := by
  have e1 : Am.okB ⟨op, f, fm, t, tm⟩ = true := (Am.okB_iff _).2 h
  have hop : 0 ≤ op ∧ op < 256 := by unfold Am.ok at h; dsimp only at h; omega
  have hf : 0 ≤ f ∧ f < 4294967296 := by unfold Am.ok at h; dsimp only at h; omega
  have hfm : 0 ≤ fm ∧ fm < 65536 := by unfold Am.ok at h; dsimp only at h; omega
  have ht : 0 ≤ t ∧ t < 4294967296 := by unfold Am.ok at h; dsimp only at h; omega
  have htm : 0 ≤ tm ∧ tm < 65536 := by unfold Am.ok at h; dsimp only at h; omega
  clear h
  go_enter Tryz.func23, Tryz.ntmps23
  have HX := Lib.hid (alloc_new w (.cells #[.int .i64 op, .int .i64 f, .int .i64 fm, .int .i64 t, .int .i64 tm] 79))
  have HB := Lib.hid (below_alloc (o := .cells #[.int .i64 op, .int .i64 f, .int .i64 fm, .int .i64 t, .int .i64 tm] 79) (Below.refl w.heap.size w))
  obtain ⟨⟨a0, a1, a2, a3, a4⟩, -⟩ := cells5 HX.out
  go_wp2_with fail
  refine (valid_any op f fm t tm _).mono ?_
  rintro e w2 ⟨rfl, hb⟩
  rw [e1]
  have HX2 := Lib.hid (bblock hb HX.out); have HB2 := Lib.hid (below_call HB.out hb)
  clear a0 a1 a2 a3 a4 hb HX HB e1
  obtain ⟨x, hx⟩ : ∃ x, w.heap.size = x := ⟨_, rfl⟩
  have hxl : x < w2.heap.size := by rw [← hx]; exact blk_lt HX2.out
  rw [hx] at HX2
  have HXE := Lib.hid hx
  clear hx
  have HX3 := Lib.hid (block_alloc HX2.out (.cells #[.pointer none, .slice none 0 0] 107))
  have HB3 := Lib.hid (below_alloc (o := .cells #[.pointer none, .slice none 0 0] 107) HB2.out)
  have HI3 := Lib.hid (isB_new w2)
  obtain ⟨⟨a0, a1, a2, a3, a4⟩, -⟩ := cells5 HX3.out
  obtain ⟨b, hb⟩ : ∃ b, w2.heap.size = b := ⟨_, rfl⟩
  rw [hb] at HI3
  have hwb : w.heap.size ≤ b := by rw [← hb]; exact HB2.out.size
  have HBE := Lib.hid hb
  clear hb
  go_upto_region 4 with fail
  rw [HBE.out, HXE.out]
  generalize w2.alloc (.cells #[.pointer none, .slice none 0 0] 107) = w3 at *
  go_wp2_with fail
  clear a0 a1 a2 a3 a4
  go_loopw [28] (fun i wr => ∃ k : Nat, k ≤ 5 ∧ i = .int .i64 (k : Int) ∧ IsB b b (pre ⟨op, f, fm, t, tm⟩ k) wr ∧ Below w.heap.size w wr) (fun i _ => 5 - (Go.RowKit.intOf i).toNat)
  case atStart => exact ⟨0, Nat.zero_le _, rfl, HI3.out, HB3.out⟩
  case round =>
    clear HI3 HB3 HX3 HX2 HB2 HBE HXE
    obtain ⟨k, hk, rfl, hI, hB⟩ := hrel
    have HI := Lib.hid hI; have HB := Lib.hid hB; clear hI hB
    obtain ⟨wx, rfl⟩ : ∃ wo : World, wo = wr := ⟨_, rfl⟩
    have hcase : k = 0 ∨ k = 1 ∨ k = 2 ∨ k = 3 ∨ k = 4 ∨ k = 5 := by omega
    rcases hcase with rfl | rfl | rfl | rfl | rfl | rfl
    · have HI2 := Lib.hid (isB_alloc HI.out (.cells #[.int .i64 op, .int .i64 1] 180))
      have HB2 := Lib.hid (below_alloc (o := .cells #[.int .i64 op, .int .i64 1] 180) HB.out)
      obtain ⟨⟨c0, c1⟩, -⟩ := cells2 (alloc_new wx (.cells #[.int .i64 op, .int .i64 1] 180))
      have hix : ∀ W, (Instr.index 181 (.agg #[.int .i64 op, .int .i64 1, .int .i64 f, .int .i64 4, .int .i64 fm, .int .i64 2, .int .i64 t, .int .i64 4, .int .i64 tm, .int .i64 2]) (.int .i64 0)).run Tryz.prog W = .ok (.agg #[.int .i64 op, .int .i64 1]) W := fun _ => by kernel_rfl
      go_wp2_with fail
      refine (put_okI op 1 _ (by omega) (by omega) (by omega) (by simp; omega)).mono ?_
      rintro e v1 ⟨rfl, hb1⟩
      have HI3 := Lib.hid (isB_below HI2.out hb1); have HB3 := Lib.hid (below_call HB2.out hb1)
      clear c0 c1 hb1 HI HB HI2 HB2
      go_wp2_with fail
      refine (bwrite_any b b _ _ v1 HI3.out (by simp [pre, be_length, ByteArray.size])).mono ?_
      rintro e v2 ⟨rfl, hI2, hb2⟩
      have hB4 := Lib.hid (HB3.out.trans (hb2.mono hwb))
      have HI4 := Lib.hid hI2
      clear hI2 hb2 HI3 HB3
      go_wp2_with fail
      go_roundw
      case rel => exact ⟨1, by omega, by go_num, HI4.out, hB4.out⟩
      case measure => simp [Go.RowKit.intOf]
    · have HI2 := Lib.hid (isB_alloc HI.out (.cells #[.int .i64 f, .int .i64 4] 180))
      have HB2 := Lib.hid (below_alloc (o := .cells #[.int .i64 f, .int .i64 4] 180) HB.out)
      obtain ⟨⟨c0, c1⟩, -⟩ := cells2 (alloc_new wx (.cells #[.int .i64 f, .int .i64 4] 180))
      have hix : ∀ W, (Instr.index 181 (.agg #[.int .i64 op, .int .i64 1, .int .i64 f, .int .i64 4, .int .i64 fm, .int .i64 2, .int .i64 t, .int .i64 4, .int .i64 tm, .int .i64 2]) (.int .i64 1)).run Tryz.prog W = .ok (.agg #[.int .i64 f, .int .i64 4]) W := fun _ => by kernel_rfl
      go_wp2_with fail
      refine (put_okI f 4 _ (by omega) (by omega) (by omega) (by simp; omega)).mono ?_
      rintro e v1 ⟨rfl, hb1⟩
      have HI3 := Lib.hid (isB_below HI2.out hb1); have HB3 := Lib.hid (below_call HB2.out hb1)
      clear c0 c1 hb1 HI HB HI2 HB2
      go_wp2_with fail
      refine (bwrite_any b b _ _ v1 HI3.out (by simp [pre, be_length, ByteArray.size])).mono ?_
      rintro e v2 ⟨rfl, hI2, hb2⟩
      have hB4 := Lib.hid (HB3.out.trans (hb2.mono hwb))
      have HI4 := Lib.hid hI2
      clear hI2 hb2 HI3 HB3
      go_wp2_with fail
      go_roundw
      case rel => exact ⟨2, by omega, by go_num, HI4.out, hB4.out⟩
      case measure => simp [Go.RowKit.intOf]
    · have HI2 := Lib.hid (isB_alloc HI.out (.cells #[.int .i64 fm, .int .i64 2] 180))
      have HB2 := Lib.hid (below_alloc (o := .cells #[.int .i64 fm, .int .i64 2] 180) HB.out)
      obtain ⟨⟨c0, c1⟩, -⟩ := cells2 (alloc_new wx (.cells #[.int .i64 fm, .int .i64 2] 180))
      have hix : ∀ W, (Instr.index 181 (.agg #[.int .i64 op, .int .i64 1, .int .i64 f, .int .i64 4, .int .i64 fm, .int .i64 2, .int .i64 t, .int .i64 4, .int .i64 tm, .int .i64 2]) (.int .i64 2)).run Tryz.prog W = .ok (.agg #[.int .i64 fm, .int .i64 2]) W := fun _ => by kernel_rfl
      go_wp2_with fail
      refine (put_okI fm 2 _ (by omega) (by omega) (by omega) (by simp; omega)).mono ?_
      rintro e v1 ⟨rfl, hb1⟩
      have HI3 := Lib.hid (isB_below HI2.out hb1); have HB3 := Lib.hid (below_call HB2.out hb1)
      clear c0 c1 hb1 HI HB HI2 HB2
      go_wp2_with fail
      refine (bwrite_any b b _ _ v1 HI3.out (by simp [pre, be_length, ByteArray.size])).mono ?_
      rintro e v2 ⟨rfl, hI2, hb2⟩
      have hB4 := Lib.hid (HB3.out.trans (hb2.mono hwb))
      have HI4 := Lib.hid hI2
      clear hI2 hb2 HI3 HB3
      go_wp2_with fail
      go_roundw
      case rel => exact ⟨3, by omega, by go_num, HI4.out, hB4.out⟩
      case measure => simp [Go.RowKit.intOf]
    · have HI2 := Lib.hid (isB_alloc HI.out (.cells #[.int .i64 t, .int .i64 4] 180))
      have HB2 := Lib.hid (below_alloc (o := .cells #[.int .i64 t, .int .i64 4] 180) HB.out)
      obtain ⟨⟨c0, c1⟩, -⟩ := cells2 (alloc_new wx (.cells #[.int .i64 t, .int .i64 4] 180))
      have hix : ∀ W, (Instr.index 181 (.agg #[.int .i64 op, .int .i64 1, .int .i64 f, .int .i64 4, .int .i64 fm, .int .i64 2, .int .i64 t, .int .i64 4, .int .i64 tm, .int .i64 2]) (.int .i64 3)).run Tryz.prog W = .ok (.agg #[.int .i64 t, .int .i64 4]) W := fun _ => by kernel_rfl
      go_wp2_with fail
      refine (put_okI t 4 _ (by omega) (by omega) (by omega) (by simp; omega)).mono ?_
      rintro e v1 ⟨rfl, hb1⟩
      have HI3 := Lib.hid (isB_below HI2.out hb1); have HB3 := Lib.hid (below_call HB2.out hb1)
      clear c0 c1 hb1 HI HB HI2 HB2
      go_wp2_with fail
      refine (bwrite_any b b _ _ v1 HI3.out (by simp [pre, be_length, ByteArray.size])).mono ?_
      rintro e v2 ⟨rfl, hI2, hb2⟩
      have hB4 := Lib.hid (HB3.out.trans (hb2.mono hwb))
      have HI4 := Lib.hid hI2
      clear hI2 hb2 HI3 HB3
      go_wp2_with fail
      go_roundw
      case rel => exact ⟨4, by omega, by go_num, HI4.out, hB4.out⟩
      case measure => simp [Go.RowKit.intOf]
    · have HI2 := Lib.hid (isB_alloc HI.out (.cells #[.int .i64 tm, .int .i64 2] 180))
      have HB2 := Lib.hid (below_alloc (o := .cells #[.int .i64 tm, .int .i64 2] 180) HB.out)
      obtain ⟨⟨c0, c1⟩, -⟩ := cells2 (alloc_new wx (.cells #[.int .i64 tm, .int .i64 2] 180))
      have hix : ∀ W, (Instr.index 181 (.agg #[.int .i64 op, .int .i64 1, .int .i64 f, .int .i64 4, .int .i64 fm, .int .i64 2, .int .i64 t, .int .i64 4, .int .i64 tm, .int .i64 2]) (.int .i64 4)).run Tryz.prog W = .ok (.agg #[.int .i64 tm, .int .i64 2]) W := fun _ => by kernel_rfl
      go_wp2_with fail
      refine (put_okI tm 2 _ (by omega) (by omega) (by omega) (by simp; omega)).mono ?_
      rintro e v1 ⟨rfl, hb1⟩
      have HI3 := Lib.hid (isB_below HI2.out hb1); have HB3 := Lib.hid (below_call HB2.out hb1)
      clear c0 c1 hb1 HI HB HI2 HB2
      go_wp2_with fail
      refine (bwrite_any b b _ _ v1 HI3.out (by simp [pre, be_length, ByteArray.size])).mono ?_
      rintro e v2 ⟨rfl, hI2, hb2⟩
      have hB4 := Lib.hid (HB3.out.trans (hb2.mono hwb))
      have HI4 := Lib.hid hI2
      clear hI2 hb2 HI3 HB3
      go_wp2_with fail
      go_roundw
      case rel => exact ⟨5, by omega, by go_num, HI4.out, hB4.out⟩
      case measure => simp [Go.RowKit.intOf]
    · go_wp2_with fail
      refine (bstring_any b b _ wx HI.out).mono ?_
      rintro e w9 ⟨rfl, hb9⟩
      go_wp2_with fail
      go_ret2
      exact ⟨rfl, HB.out.trans (hb9.mono hwb)⟩
theorem infoMsg : (Tryz.prog.info? 79).map (·.size) = some 5 := by kernel_rfl
def decR (s : ByteArray) : Value := if s.size = 13 ∧ (msgOf s).okB = true then .tuple #[.agg #[.int .i64 (num (bytesAt s 0 1)), .int .i64 (num (bytesAt s 1 4)), .int .i64 (num (bytesAt s 5 2)), .int .i64 (num (bytesAt s 7 4)), .int .i64 (num (bytesAt s 11 2))], .int .i64 0] else .tuple #[.agg #[.int .i64 0, .int .i64 0, .int .i64 0, .int .i64 0, .int .i64 0], .int .i64 50]
theorem decode_len (s : ByteArray) (w : World) (h : s.size ≠ 13) :
    Calls Tryz.prog 24 #[.string s] w fun e w' => e = .returned (decR s) ∧ Below w.heap.size w w' := by
  have hd : decR s = .tuple #[.agg #[.int .i64 0, .int .i64 0, .int .i64 0, .int .i64 0, .int .i64 0], .int .i64 50] := by unfold decR; rw [if_neg (fun q => h q.1)]
  rw [hd]
  clear hd
  have e1 : ((s.size : Int) != 13) = true := by simp; omega
  go_enter Tryz.func24, Tryz.ntmps24
  have HZ := Lib.hid (alloc_new w (.cells #[.int .i64 0, .int .i64 0, .int .i64 0, .int .i64 0, .int .i64 0] 79))
  go_wp2_with fail
  refine bodyPost_ret (v := .tuple #[.agg #[.int .i64 0, .int .i64 0, .int .i64 0, .int .i64 0, .int .i64 0], .int .i64 50]) (res_cell_tmp Tryz.results24 (by exact HZ.out) rfl Tryz.underlying79 rfl infoMsg) rfl ?_
  exact ⟨rfl, below_alloc (Below.refl _ _)⟩
set_option maxHeartbeats 8000000 in
theorem decode_13 (s : ByteArray) (w : World) (h : s.size = 13) :
    Calls Tryz.prog 24 #[.string s] w fun e w' => e = .returned (decR s) ∧ Below w.heap.size w w' := by
  have e1 : ((s.size : Int) != 13) = false := by simp; omega
  have hm : s.size ≤ 9223372036854775807 := by omega
  go_enter Tryz.func24, Tryz.ntmps24
  have HZ := Lib.hid (block_alloc (alloc_new w (.cells #[.int .i64 0, .int .i64 0, .int .i64 0, .int .i64 0, .int .i64 0] 79)) (.cells #[.int .i64 0, .int .i64 0, .int .i64 0, .int .i64 0, .int .i64 0] 184))
  have HG := Lib.hid (alloc_new' (w.alloc (.cells #[.int .i64 0, .int .i64 0, .int .i64 0, .int .i64 0, .int .i64 0] 79)) (.cells #[.int .i64 0, .int .i64 0, .int .i64 0, .int .i64 0, .int .i64 0] 184) (w.heap.size + 1) (by simp))
  have HB := Lib.hid (below_alloc (o := .cells #[.int .i64 0, .int .i64 0, .int .i64 0, .int .i64 0, .int .i64 0] 184) (below_alloc (o := .cells #[.int .i64 0, .int .i64 0, .int .i64 0, .int .i64 0, .int .i64 0] 79) (Below.refl w.heap.size w)))
  obtain ⟨x, hx⟩ : ∃ x, w.heap.size = x := ⟨_, rfl⟩
  rw [hx] at HZ HG
  have HXE := Lib.hid hx
  clear hx
  go_upto_region 4 with fail
  rw [HXE.out]
  generalize (w.alloc (.cells #[.int .i64 0, .int .i64 0, .int .i64 0, .int .i64 0, .int .i64 0] 79)).alloc (.cells #[.int .i64 0, .int .i64 0, .int .i64 0, .int .i64 0, .int .i64 0] 184) = w1 at *
  go_wp2_with fail
  go_loopw [5, 16] (fun a i wr => ∃ k : Nat, k ≤ 5 ∧ i = .int .i64 (k : Int) ∧ a = .int .i64 (offs k) ∧ wr.heap[x]? = some (.cells #[.int .i64 0, .int .i64 0, .int .i64 0, .int .i64 0, .int .i64 0] 79) ∧ wr.heap[x + 1]? = some (.cells (got s k) 184) ∧ Below w.heap.size w wr) (fun _ i _ => 5 - (Go.RowKit.intOf i).toNat)
  case atStart => exact ⟨0, Nat.zero_le _, rfl, rfl, HZ.out, HG.out, HB.out⟩
  case round =>
    clear HZ HG HB
    obtain ⟨k, hk, rfl, rfl, hZ, hG, hB⟩ := hrel
    have HZ := Lib.hid hZ; have HG := Lib.hid hG; have HB := Lib.hid hB; clear hZ hG hB
    obtain ⟨wx, rfl⟩ : ∃ wo : World, wo = wr := ⟨_, rfl⟩
    have hcase : k = 0 ∨ k = 1 ∨ k = 2 ∨ k = 3 ∨ k = 4 ∨ k = 5 := by omega
    rcases hcase with rfl | rfl | rfl | rfl | rfl | rfl
    · have hix : ∀ W, (Instr.index 184 (.agg #[.int .i64 1, .int .i64 4, .int .i64 2, .int .i64 4, .int .i64 2]) (.int .i64 0)).run Tryz.prog W = .ok (.int .i64 1) W := fun _ => by kernel_rfl
      have ho : offs 0 = 0 := rfl
      rw [ho]
      clear ho
      go_wp2_with fail
      refine (getv1 s 0 wx (by omega) (by omega) hm).mono ?_
      rintro e v1 ⟨rfl, hb1⟩
      have HZ1 := Lib.hid (bblock hb1 HZ.out); have HG1 := Lib.hid (bblock hb1 HG.out); have HB1 := Lib.hid (below_call HB.out hb1)
      clear hb1 HZ HG HB hix
      unfold got at HG1
      obtain ⟨⟨g0, g1, g2, g3, g4⟩, z0, z1, z2, z3, z4⟩ := cells5 HG1.out
      go_upto_region 12 with fail
      have HZ2 := Lib.hid (block_set_other (a := ⟨x + 1, 0, none⟩) (u := .int .i64 (num (bytesAt s 0 1))) HZ1.out (by show x + 1 ≠ x; omega))
      have HG2 : Hid ((World.setCell v1 ⟨x + 1, 0, none⟩ (.int .i64 (num (bytesAt s 0 1)))).heap[x + 1]? = some (.cells (got s 1) 184)) := Lib.hid (cells_eq (block_setCell (k := 0) (v := .int .i64 (num (bytesAt s 0 1))) HG1.out) (by simp [got]))
      have HB2 := Lib.hid (HB1.out.setCell (p := ⟨x + 1, 0, none⟩) (by have := HXE.out; show w.heap.size ≤ x + 1; omega) (.int .i64 (num (bytesAt s 0 1))))
      clear g0 g1 g2 g3 g4 z0 z1 z2 z3 z4 HZ1 HG1 HB1
      generalize World.setCell v1 ⟨x + 1, 0, none⟩ (.int .i64 (num (bytesAt s 0 1))) = v2 at *
      go_wp2_with fail
      go_roundw
      case rel => exact ⟨1, by omega, by go_num, by first | rfl | (simp [offs]), HZ2.out, HG2.out, HB2.out⟩
      case measure => simp [Go.RowKit.intOf]
    · have hix : ∀ W, (Instr.index 184 (.agg #[.int .i64 1, .int .i64 4, .int .i64 2, .int .i64 4, .int .i64 2]) (.int .i64 1)).run Tryz.prog W = .ok (.int .i64 4) W := fun _ => by kernel_rfl
      have ho : offs 1 = 1 := rfl
      rw [ho]
      clear ho
      go_wp2_with fail
      refine (getv4 s 1 wx (by omega) (by omega) hm).mono ?_
      rintro e v1 ⟨rfl, hb1⟩
      have HZ1 := Lib.hid (bblock hb1 HZ.out); have HG1 := Lib.hid (bblock hb1 HG.out); have HB1 := Lib.hid (below_call HB.out hb1)
      clear hb1 HZ HG HB hix
      unfold got at HG1
      obtain ⟨⟨g0, g1, g2, g3, g4⟩, z0, z1, z2, z3, z4⟩ := cells5 HG1.out
      go_upto_region 12 with fail
      have HZ2 := Lib.hid (block_set_other (a := ⟨x + 1, 1, none⟩) (u := .int .i64 (num (bytesAt s 1 4))) HZ1.out (by show x + 1 ≠ x; omega))
      have HG2 : Hid ((World.setCell v1 ⟨x + 1, 1, none⟩ (.int .i64 (num (bytesAt s 1 4)))).heap[x + 1]? = some (.cells (got s 2) 184)) := Lib.hid (cells_eq (block_setCell (k := 1) (v := .int .i64 (num (bytesAt s 1 4))) HG1.out) (by simp [got]))
      have HB2 := Lib.hid (HB1.out.setCell (p := ⟨x + 1, 1, none⟩) (by have := HXE.out; show w.heap.size ≤ x + 1; omega) (.int .i64 (num (bytesAt s 1 4))))
      clear g0 g1 g2 g3 g4 z0 z1 z2 z3 z4 HZ1 HG1 HB1
      generalize World.setCell v1 ⟨x + 1, 1, none⟩ (.int .i64 (num (bytesAt s 1 4))) = v2 at *
      go_wp2_with fail
      go_roundw
      case rel => exact ⟨2, by omega, by go_num, by first | rfl | (simp [offs]), HZ2.out, HG2.out, HB2.out⟩
      case measure => simp [Go.RowKit.intOf]
    · have hix : ∀ W, (Instr.index 184 (.agg #[.int .i64 1, .int .i64 4, .int .i64 2, .int .i64 4, .int .i64 2]) (.int .i64 2)).run Tryz.prog W = .ok (.int .i64 2) W := fun _ => by kernel_rfl
      have ho : offs 2 = 5 := rfl
      rw [ho]
      clear ho
      go_wp2_with fail
      refine (getv2 s 5 wx (by omega) (by omega) hm).mono ?_
      rintro e v1 ⟨rfl, hb1⟩
      have HZ1 := Lib.hid (bblock hb1 HZ.out); have HG1 := Lib.hid (bblock hb1 HG.out); have HB1 := Lib.hid (below_call HB.out hb1)
      clear hb1 HZ HG HB hix
      unfold got at HG1
      obtain ⟨⟨g0, g1, g2, g3, g4⟩, z0, z1, z2, z3, z4⟩ := cells5 HG1.out
      go_upto_region 12 with fail
      have HZ2 := Lib.hid (block_set_other (a := ⟨x + 1, 2, none⟩) (u := .int .i64 (num (bytesAt s 5 2))) HZ1.out (by show x + 1 ≠ x; omega))
      have HG2 : Hid ((World.setCell v1 ⟨x + 1, 2, none⟩ (.int .i64 (num (bytesAt s 5 2)))).heap[x + 1]? = some (.cells (got s 3) 184)) := Lib.hid (cells_eq (block_setCell (k := 2) (v := .int .i64 (num (bytesAt s 5 2))) HG1.out) (by simp [got]))
      have HB2 := Lib.hid (HB1.out.setCell (p := ⟨x + 1, 2, none⟩) (by have := HXE.out; show w.heap.size ≤ x + 1; omega) (.int .i64 (num (bytesAt s 5 2))))
      clear g0 g1 g2 g3 g4 z0 z1 z2 z3 z4 HZ1 HG1 HB1
      generalize World.setCell v1 ⟨x + 1, 2, none⟩ (.int .i64 (num (bytesAt s 5 2))) = v2 at *
      go_wp2_with fail
      go_roundw
      case rel => exact ⟨3, by omega, by go_num, by first | rfl | (simp [offs]), HZ2.out, HG2.out, HB2.out⟩
      case measure => simp [Go.RowKit.intOf]
    · have hix : ∀ W, (Instr.index 184 (.agg #[.int .i64 1, .int .i64 4, .int .i64 2, .int .i64 4, .int .i64 2]) (.int .i64 3)).run Tryz.prog W = .ok (.int .i64 4) W := fun _ => by kernel_rfl
      have ho : offs 3 = 7 := rfl
      rw [ho]
      clear ho
      go_wp2_with fail
      refine (getv4 s 7 wx (by omega) (by omega) hm).mono ?_
      rintro e v1 ⟨rfl, hb1⟩
      have HZ1 := Lib.hid (bblock hb1 HZ.out); have HG1 := Lib.hid (bblock hb1 HG.out); have HB1 := Lib.hid (below_call HB.out hb1)
      clear hb1 HZ HG HB hix
      unfold got at HG1
      obtain ⟨⟨g0, g1, g2, g3, g4⟩, z0, z1, z2, z3, z4⟩ := cells5 HG1.out
      go_upto_region 12 with fail
      have HZ2 := Lib.hid (block_set_other (a := ⟨x + 1, 3, none⟩) (u := .int .i64 (num (bytesAt s 7 4))) HZ1.out (by show x + 1 ≠ x; omega))
      have HG2 : Hid ((World.setCell v1 ⟨x + 1, 3, none⟩ (.int .i64 (num (bytesAt s 7 4)))).heap[x + 1]? = some (.cells (got s 4) 184)) := Lib.hid (cells_eq (block_setCell (k := 3) (v := .int .i64 (num (bytesAt s 7 4))) HG1.out) (by simp [got]))
      have HB2 := Lib.hid (HB1.out.setCell (p := ⟨x + 1, 3, none⟩) (by have := HXE.out; show w.heap.size ≤ x + 1; omega) (.int .i64 (num (bytesAt s 7 4))))
      clear g0 g1 g2 g3 g4 z0 z1 z2 z3 z4 HZ1 HG1 HB1
      generalize World.setCell v1 ⟨x + 1, 3, none⟩ (.int .i64 (num (bytesAt s 7 4))) = v2 at *
      go_wp2_with fail
      go_roundw
      case rel => exact ⟨4, by omega, by go_num, by first | rfl | (simp [offs]), HZ2.out, HG2.out, HB2.out⟩
      case measure => simp [Go.RowKit.intOf]
    · have hix : ∀ W, (Instr.index 184 (.agg #[.int .i64 1, .int .i64 4, .int .i64 2, .int .i64 4, .int .i64 2]) (.int .i64 4)).run Tryz.prog W = .ok (.int .i64 2) W := fun _ => by kernel_rfl
      have ho : offs 4 = 11 := rfl
      rw [ho]
      clear ho
      go_wp2_with fail
      refine (getv2 s 11 wx (by omega) (by omega) hm).mono ?_
      rintro e v1 ⟨rfl, hb1⟩
      have HZ1 := Lib.hid (bblock hb1 HZ.out); have HG1 := Lib.hid (bblock hb1 HG.out); have HB1 := Lib.hid (below_call HB.out hb1)
      clear hb1 HZ HG HB hix
      unfold got at HG1
      obtain ⟨⟨g0, g1, g2, g3, g4⟩, z0, z1, z2, z3, z4⟩ := cells5 HG1.out
      go_upto_region 12 with fail
      have HZ2 := Lib.hid (block_set_other (a := ⟨x + 1, 4, none⟩) (u := .int .i64 (num (bytesAt s 11 2))) HZ1.out (by show x + 1 ≠ x; omega))
      have HG2 : Hid ((World.setCell v1 ⟨x + 1, 4, none⟩ (.int .i64 (num (bytesAt s 11 2)))).heap[x + 1]? = some (.cells (got s 5) 184)) := Lib.hid (cells_eq (block_setCell (k := 4) (v := .int .i64 (num (bytesAt s 11 2))) HG1.out) (by simp [got]))
      have HB2 := Lib.hid (HB1.out.setCell (p := ⟨x + 1, 4, none⟩) (by have := HXE.out; show w.heap.size ≤ x + 1; omega) (.int .i64 (num (bytesAt s 11 2))))
      clear g0 g1 g2 g3 g4 z0 z1 z2 z3 z4 HZ1 HG1 HB1
      generalize World.setCell v1 ⟨x + 1, 4, none⟩ (.int .i64 (num (bytesAt s 11 2))) = v2 at *
      go_wp2_with fail
      go_roundw
      case rel => exact ⟨5, by omega, by go_num, by first | rfl | (simp [offs]), HZ2.out, HG2.out, HB2.out⟩
      case measure => simp [Go.RowKit.intOf]
    · have HA := Lib.hid (alloc_new wx (.cells #[.int .i64 (num (bytesAt s 0 1)), .int .i64 (num (bytesAt s 1 4)), .int .i64 (num (bytesAt s 5 2)), .int .i64 (num (bytesAt s 7 4)), .int .i64 (num (bytesAt s 11 2))] 79))
      unfold got at HG
      obtain ⟨⟨g0, g1, g2, g3, g4⟩, -⟩ := cells5 HG.out
      have HZ2 := Lib.hid (block_alloc HZ.out (.cells #[.int .i64 (num (bytesAt s 0 1)), .int .i64 (num (bytesAt s 1 4)), .int .i64 (num (bytesAt s 5 2)), .int .i64 (num (bytesAt s 7 4)), .int .i64 (num (bytesAt s 11 2))] 79))
      have HB2 := Lib.hid (below_alloc (o := .cells #[.int .i64 (num (bytesAt s 0 1)), .int .i64 (num (bytesAt s 1 4)), .int .i64 (num (bytesAt s 5 2)), .int .i64 (num (bytesAt s 7 4)), .int .i64 (num (bytesAt s 11 2))] 79) HB.out)
      have hxl := blk_lt HG.out
      obtain ⟨y, hy⟩ : ∃ y, wx.heap.size = y := ⟨_, rfl⟩
      rw [hy] at HA hxl
      have HYE := Lib.hid hy
      clear hy
      go_upto_region 15 with fail
      rw [HYE.out]
      generalize wx.alloc (.cells #[.int .i64 (num (bytesAt s 0 1)), .int .i64 (num (bytesAt s 1 4)), .int .i64 (num (bytesAt s 5 2)), .int .i64 (num (bytesAt s 7 4)), .int .i64 (num (bytesAt s 11 2))] 79) = w3 at *
      clear g0 g1 g2 g3 g4
      obtain ⟨⟨m0, m1, m2, m3, m4⟩, -⟩ := cells5 HA.out
      go_wp2_with fail
      refine (valid_any _ _ _ _ _ w3).mono ?_
      rintro e w4 ⟨rfl, hb4⟩
      rw [show (⟨(num (bytesAt s 0 1)), (num (bytesAt s 1 4)), (num (bytesAt s 5 2)), (num (bytesAt s 7 4)), (num (bytesAt s 11 2))⟩ : Am) = msgOf s from rfl]
      have HZ4 := Lib.hid (bblock hb4 HZ2.out); have HA4 := Lib.hid (bblock hb4 HA.out); have HB4 := Lib.hid (below_call HB2.out hb4)
      clear m0 m1 m2 m3 m4 hb4 HZ2 HA HB2
      obtain ⟨b, hb⟩ : ∃ b, (msgOf s).okB = b := ⟨_, rfl⟩
      rw [hb]
      have HD : Hid (decR s = if b = true then .tuple #[.agg #[.int .i64 (num (bytesAt s 0 1)), .int .i64 (num (bytesAt s 1 4)), .int .i64 (num (bytesAt s 5 2)), .int .i64 (num (bytesAt s 7 4)), .int .i64 (num (bytesAt s 11 2))], .int .i64 0] else .tuple #[.agg #[.int .i64 0, .int .i64 0, .int .i64 0, .int .i64 0, .int .i64 0], .int .i64 50]) := Lib.hid (by unfold decR; rw [hb]; simp [h])
      clear hb
      have hzx : x < y := by omega
      cases b with
      | false =>
        obtain ⟨⟨z0, z1, z2, z3, z4⟩, f0, f1, f2, f3, f4⟩ := cells5 HZ4.out
        go_wp2_with fail
        have HR := Lib.hid (stN_all [.int .i64 0, .int .i64 0, .int .i64 0, .int .i64 0, .int .i64 0] HZ4.out rfl)
        refine bodyPost_ret (v := .tuple #[.agg #[.int .i64 0, .int .i64 0, .int .i64 0, .int .i64 0, .int .i64 0], .int .i64 50]) (res_cell_tmp Tryz.results24 (by exact HR.out) rfl Tryz.underlying79 rfl infoMsg) rfl ?_
        exact ⟨by rw [HD.out]; rfl, stN_below (B := x) (by have := HXE.out; omega) [.int .i64 0, .int .i64 0, .int .i64 0, .int .i64 0, .int .i64 0] _ 0 HB4.out⟩
      | true =>
        obtain ⟨⟨z0, z1, z2, z3, z4⟩, f0, f1, f2, f3, f4⟩ := cells5 HZ4.out
        obtain ⟨⟨m0, m1, m2, m3, m4⟩, -⟩ := cells5 HA4.out
        go_wp2_with fail
        have HR := Lib.hid (stN_all [.int .i64 (num (bytesAt s 0 1)), .int .i64 (num (bytesAt s 1 4)), .int .i64 (num (bytesAt s 5 2)), .int .i64 (num (bytesAt s 7 4)), .int .i64 (num (bytesAt s 11 2))] HZ4.out rfl)
        refine bodyPost_ret (v := .tuple #[.agg #[.int .i64 (num (bytesAt s 0 1)), .int .i64 (num (bytesAt s 1 4)), .int .i64 (num (bytesAt s 5 2)), .int .i64 (num (bytesAt s 7 4)), .int .i64 (num (bytesAt s 11 2))], .int .i64 0]) (res_cell_tmp Tryz.results24 (by exact HR.out) rfl Tryz.underlying79 rfl infoMsg) rfl ?_
        exact ⟨by rw [HD.out]; rfl, stN_below (B := x) (by have := HXE.out; omega) [.int .i64 (num (bytesAt s 0 1)), .int .i64 (num (bytesAt s 1 4)), .int .i64 (num (bytesAt s 5 2)), .int .i64 (num (bytesAt s 7 4)), .int .i64 (num (bytesAt s 11 2))] _ 0 HB4.out⟩
end Go.Proofs.YtmgjcjacoegocaaGreatDoor.Ar

namespace Go.Proofs.YtmgjcjacoegocaaGreatDoor.Ar
set_option maxRecDepth 100000
open Go.RowKit Go.Proofs.YtmgjcjacoegocaaGreatDoor.Wire

theorem msg_enc (a : Am) (h : a.ok) : msgOf ⟨(encM a).toArray⟩ = a := by
  obtain ⟨op, f, fm, t, tm⟩ := a
  unfold Am.ok at h
  dsimp only at h
  have b1 : bytesAt ⟨(encM ⟨op, f, fm, t, tm⟩).toArray⟩ 0 1 = be 1 op := by
    unfold bytesAt encM
    simp only [List.drop_zero]
    rw [List.append_assoc, List.append_assoc, List.append_assoc, List.take_left' (be_length 1 op)]
  have b2 : bytesAt ⟨(encM ⟨op, f, fm, t, tm⟩).toArray⟩ 1 4 = be 4 f := by
    unfold bytesAt encM
    dsimp only
    rw [List.append_assoc, List.append_assoc, List.append_assoc, List.drop_left' (be_length 1 op), List.take_left' (be_length 4 f)]
  have b3 : bytesAt ⟨(encM ⟨op, f, fm, t, tm⟩).toArray⟩ 5 2 = be 2 fm := by
    unfold bytesAt encM
    dsimp only
    rw [List.append_assoc, List.append_assoc, List.drop_left' (by simp [be_length]), List.take_left' (be_length 2 fm)]
  have b4 : bytesAt ⟨(encM ⟨op, f, fm, t, tm⟩).toArray⟩ 7 4 = be 4 t := by
    unfold bytesAt encM
    dsimp only
    rw [List.append_assoc, List.drop_left' (by simp [be_length]), List.take_left' (be_length 4 t)]
  have b5 : bytesAt ⟨(encM ⟨op, f, fm, t, tm⟩).toArray⟩ 11 2 = be 2 tm := by
    unfold bytesAt encM
    dsimp only
    rw [List.drop_left' (by simp [be_length]), List.take_of_length_le (by simp [be_length])]
  unfold msgOf
  rw [b1, b2, b3, b4, b5, num_be 1 op (by omega) (by omega), num_be 4 f (by omega) (by omega), num_be 2 fm (by omega) (by omega), num_be 4 t (by omega) (by omega), num_be 2 tm (by omega) (by omega)]
theorem dec_enc (a : Am) (h : a.ok) : decR ⟨(encM a).toArray⟩ = .tuple #[.agg #[.int .i64 a.op, .int .i64 a.f, .int .i64 a.fm, .int .i64 a.t, .int .i64 a.tm], .int .i64 0] := by
  have hm := msg_enc a h
  unfold decR
  rw [if_pos ⟨by show (encM a).toArray.size = 13; simp [encM_len], by rw [hm]; exact (Am.okB_iff a).2 h⟩]
  have e : ∀ b : Am, b = a → (Value.tuple #[.agg #[.int .i64 b.op, .int .i64 b.f, .int .i64 b.fm, .int .i64 b.t, .int .i64 b.tm], .int .i64 0] : Value) = .tuple #[.agg #[.int .i64 a.op, .int .i64 a.f, .int .i64 a.fm, .int .i64 a.t, .int .i64 a.tm], .int .i64 0] := by rintro b rfl; rfl
  exact e _ hm
end Go.Proofs.YtmgjcjacoegocaaGreatDoor.Ar
