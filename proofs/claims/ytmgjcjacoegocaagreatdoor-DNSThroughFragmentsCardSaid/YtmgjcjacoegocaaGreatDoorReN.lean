/-
  Reassembly: the table whole; fragments in a rotation of their order (several texts in one).
-/
import Derived.Test.YtmgjcjacoegocaaGreatDoorReM
import Derived.OwnWalk
import Derived.Test.YtmgjcjacoegocaaGreatDoorRange2
import Derived.OwnWalkIn
import Derived.TacticsInMore
import Derived.LoopNIn
import Derived.LoopIn
import Derived.Shelf.Abstract
import Derived.Shelf.RegionOpen
import Derived.Stop.RegionWithIn
import Derived.Test.YtmgjcjacoegocaaGreatDoorRows
import Derived.Test.YtmgjcjacoegocaaGreatDoorPkM
import Derived.Test.YtmgjcjacoegocaaGreatDoorBase1
import Derived.Laws.StructEq
import Derived.RegionTactic
import Derived.LoopTactic
import Derived.Deep.Cut
import Derived.Deep.DeepCutAuto
import Derived.BigQuiet
import Derived.WalkMore
import Derived.WalkKit
import Derived.Test.YtmgjcjacoegocaaGreatDoorRound
import Derived.Test.YtmgjcjacoegocaaGreatDoorHeld
import Derived.Deep.AppendLies
import Derived.Deep.RegionHeld3
import Derived.Deep.QuietTactic
import Derived.Maps.AppendAt
import Derived.Maps.RangeRun
namespace Go.Proofs.YtmgjcjacoegocaaGreatDoor.Re
set_option maxRecDepth 100000
open Go.RowKit Go.Proofs.YtmgjcjacoegocaaGreatDoor.Wire

theorem slNil (w : World) : (binOp .eql 124 (.slice none 0 0) (.slice none 0 0)).run Tryz.prog w = .ok (.bool true) w := by kernel_rfl
theorem slSome (a : Addr) (n c : Nat) (w : World) : (binOp .eql 124 (.slice (some a) n c) (.slice none 0 0)).run Tryz.prog w = .ok (.bool false) w := by kernel_rfl
/-- a clone: nil, or a row of its own -/
def ClonePost (w : World) (n : Nat) (ks : List Ky) (x : Ending) (w' : World) : Prop := ∃ v, x = .returned v ∧ w'.ownsRow w.heap.size 128 4 v n (enCells ks) ∧ Below w.heap.size w w'
set_option maxHeartbeats 2000000 in
theorem clone_any (O : Option Addr) (n c : Nat) (ks : List Ky) (w : World) (h : Ord w O n c ks) (hn : n ≤ 1000) :
    Calls Tryz.prog 116 #[.slice O n c] w (ClonePost w n ks) := by
  rcases h with ⟨rfl, rfl, rfl, rfl⟩ | ⟨g, rfl, hr, hk, hc1, hc2⟩
  · have HB := Lib.hid (Below.refl w.heap.size w)
    have hq := slNil
    go_enter Tryz.func116, Tryz.ntmps116
    go_wp2_with fail
    go_ret
    exact ⟨_, rfl, ⟨rfl, .inl ⟨rfl, rfl⟩⟩, HB.out⟩
  · obtain ⟨i0, hi, hz0, hz1, hz2⟩ := info_parts infoKy
    have hown := ord_owns (.inr ⟨g, rfl, hr, hk, hc1, hc2⟩ : Ord w (some ⟨g, 0, none⟩) n c ks)
    have hcells : ∀ j u, (enCells ks)[j]? = some u → w.cell? ((⟨g, 0, none⟩ : Addr).add j) = some u := World.ownsRow.cells hown rfl
    have hl : (enCells ks).length = n * 4 := by rw [enCells_length, hk]
    have H1 := Lib.hid hcells; have H2 := Lib.hid hl; have H3 := Lib.hid hi
    clear hcells hl hown hr hk hi
    have HX : Hid ((w.alloc (.cells #[] 128)).ownsRow w.heap.size 128 4 (.slice (some ⟨w.heap.size, 0, none⟩) 0 0) 0 []) := Lib.hid (World.ownsRow_made w #[] 0 (Nat.le_refl _) (by unfold maxLen; omega) rfl)
    have HY : Hid (∀ j u, (enCells ks)[j]? = some u → (w.alloc (.cells #[] 128)).cell? ((⟨g, 0, none⟩ : Addr).add j) = some u) := Lib.hid fun j u q => cell_alloc' _ (H1.out j u q)
    have HB := Lib.hid (below_alloc (o := .cells #[] 128) (Below.refl w.heap.size w))
    have hq := slSome ⟨g, 0, none⟩ n c
    go_enter Tryz.func116, Tryz.ntmps116
    go_wp2_with (at_builtin; refine wpList_append_own _ rfl (.tmp 5) (.tmp 6) 124 rfl w.heap.size 128 i0 (.agg #[.int .i64 0, .int .i64 0, .int .i64 0, .int .i64 0]) 4 32 Tryz.underlying124 H3.out hz0 hz1 hz2 rfl (by decide) (.slice (some ⟨w.heap.size, 0, none⟩) 0 0) 0 [] rfl HX.out ⟨g, 0, none⟩ n c (enCells ks) rfl H2.out HY.out (enCells_one ks) (by unfold maxLen; omega) (by omega) (by simp) ?_; intro v' w1 hown1 hgrow1 _; have HO1 := Lib.hid hown1; have HG1 := Lib.hid hgrow1; clear hown1 hgrow1)
    go_ret
    have ho := HO1.out
    simp only [Nat.zero_add, List.nil_append] at ho
    exact ⟨_, rfl, ho, HB.out.grown HG1.out (by simp) (fun k e => by simp [Value.ownBlock] at e; omega)⟩
end Go.Proofs.YtmgjcjacoegocaaGreatDoor.Re

namespace Go.Proofs.YtmgjcjacoegocaaGreatDoor.Re
set_option maxRecDepth 100000
open Go.RowKit Go.Proofs.YtmgjcjacoegocaaGreatDoor.Wire Go.Shelf
attribute [local go_sem] Oper.semAt_some

def BoxT (W : World) (bx T : Nat) : Prop := W.heap[bx]? = some (.cells #[.pointer (some ⟨T, 0, none⟩)] 49)
def kArgs (e : En) : Array Value := #[.agg #[.int .i64 e.k.f, .int .i64 e.k.t, .int .i64 e.k.p, .int .i64 e.k.i], .pointer (some ⟨e.hb, 0, none⟩)]
theorem row_cells {W : World} {f c : Nat} {L : List En} (h : W.ownsRow 0 128 4 (.slice (some ⟨f, 0, none⟩) L.length c) L.length (enCells (L.map (·.k)))) {i : Nat} {e : En} (hi : L[i]? = some e) :
    W.cell? ⟨f, i * 4, none⟩ = some (.int .i64 e.k.f) ∧ W.cell? ⟨f, i * 4 + 1, none⟩ = some (.int .i64 e.k.t) ∧ W.cell? ⟨f, i * 4 + 2, none⟩ = some (.int .i64 e.k.p) ∧ W.cell? ⟨f, i * 4 + 3, none⟩ = some (.int .i64 e.k.i) := by
  have ho := ord_of_owns h (by simp)
  rcases ho with ⟨q, -⟩ | ⟨g, q, hr, -⟩
  · cases q
  · cases q
    exact hr.cells i e.k (by simp [hi])
theorem own_slice {W : World} {B n : Nat} {T : TypeId} {z : Nat} {v : Value} {xs : List Value} (h : W.ownsRow B T z v n xs) : ∃ A c, v = .slice A n c := by
  rcases h.2 with ⟨e, h0⟩ | ⟨g, c, cur, e, -⟩
  · exact ⟨none, 0, by rw [e, h0]⟩
  · exact ⟨_, c, e⟩
/-- what a round gives back -/
def YP (St : World → Prop) (Xx : Code → World → Prop) (l : Nat) (r : Loop) (b : Bool) (W' : World) : Prop := (b = true ∧ St W' ∧ LoopK l r W') ∨ (b = false ∧ ∃ c, Xx c W' ∧ LoopK l { r with state := .done, pending := some c } W')
set_option maxHeartbeats 4000000 in
theorem inOrder1_wide (n : Nat) (hn : 1 ≤ n) (T bx l : Nat) (r : Loop) (L : List En) (hL : L.length ≤ 1000)
    (St0 : World → Prop) (St : Nat → Obj → Nat → World → Prop) (Xx : Code → World → Prop)
    (h0 : ∀ W, St0 W → BoxT W bx T ∧ ∃ m es clk O oc, Tab W T m es clk O oc L)
    (hstart : ∀ W W' f o, St0 W → Below W.heap.size W W' → W.heap.size ≤ f → W'.heap[f]? = some o → St f o 0 W')
    (hempty : ∀ W W', St0 W → Below W.heap.size W W' → L = [] → ∃ f o, St f o 0 W')
    (hdown : ∀ f o i W W', St f o i W → Below W.heap.size W W' → St f o i W')
    (hlook : ∀ f o i e W, St f o i W → L[i]? = some e → W.heap[f]? = some o ∧ BoxT W bx T ∧ ∃ (m : Nat) (es : Array MapEntry) (clk : Nat) (O : Option Addr) (oc : Nat) (L' : List En) (j : Nat), Tab W T m es clk O oc L' ∧ L'[j]? = some e)
    (hY : ∀ f o i e W1, L[i]? = some e → St f o i W1 → LoopK l r W1 → YieldAt Fence.wide (n - 1) Tryz.prog (l + 1) (kArgs e) W1 fun x W' =>
      (x = .returned (.bool true) ∧ St f o (i + 1) W' ∧ LoopK l r W') ∨ (x = .returned (.bool false) ∧ ∃ c, Xx c W' ∧ LoopK l { r with state := .done, pending := some c } W'))
    (W : World) (hW : St0 W) (hk : LoopK l r W) :
    CallsIn Fence.wide n Tryz.prog 115 #[.func (.yield (l + 1)) #[] #[], .pointer (some ⟨bx, 0, none⟩)] W fun x W' => (∃ v, x = .returned v) ∧
      (((∃ f o, St f o L.length W') ∧ LoopK l r W') ∨ ∃ c, Xx c W' ∧ LoopK l { r with state := .done, pending := some c } W') := by
  refine callsIn_of_wp Tryz.func115 rfl trivial ?_ rfl
  simp only [Tryz.ntmps115, List.size_toArray, List.length_cons, List.length_nil, Nat.reduceAdd, Nat.reduceSub, Array.replicate_succ, Array.replicate_zero, List.push_toArray, List.append_toArray, List.nil_append, List.cons_append]
  obtain ⟨hbx, m, es, clk, O, oc, hT⟩ := h0 W hW
  have q0 := (cell_of_box hbx).1
  have q1 := (cell_of_block (k := 1) hT.tab rfl).1
  have HCL := Lib.hid (clone_any O L.length oc (L.map (·.k)) W hT.ord hL)
  clear hT hbx
  gi_wp2_with (refine ⟨trivial, ?_⟩; gi_at_call 116; refine ((callsIn_wide.2 HCL.out)).mono ?_; rintro x w1 ⟨v, rfl, hv, hb⟩; obtain ⟨A, cc, rfl⟩ := own_slice hv)
  have HS0 := Lib.hid hW
  have HK1 := Lib.hid (hk.below hb)
  have HB1 := Lib.hid hb
  have HV := Lib.hid hv
  obtain ⟨f, o, hst, hrow⟩ : ∃ f o, St f o 0 w1 ∧ (0 < L.length → A = some ⟨f, 0, none⟩ ∧ ∀ W' : World, W'.heap[f]? = some o → W'.ownsRow 0 128 4 (.slice (some ⟨f, 0, none⟩) L.length cc) L.length (enCells (L.map (·.k)))) := by
    rcases hv.2 with ⟨e, h0⟩ | ⟨f, c', cur, e, h1, h2, h3⟩
    · obtain ⟨f, o, hst⟩ := hempty W w1 hW hb (List.eq_nil_of_length_eq_zero h0)
      exact ⟨f, o, hst, fun q => by omega⟩
    · injection e with e1 e2 e3
      subst e1; subst e3
      exact ⟨f, _, hstart W w1 f _ hW hb h1 h2, fun _ => ⟨rfl, fun W' hw' => ⟨hv.1, .inr ⟨f, _, cur, rfl, Nat.zero_le _, hw', h3⟩⟩⟩⟩
  have hrow := hrow
  clear q0 q1 hW hk HCL HS0 h0 hstart hempty
  gi_loopw [11] (fun i wr => ∃ k : Nat, k ≤ L.length ∧ i = .int .i64 (k : Int) ∧ St f o k wr ∧ LoopK l r wr) (fun i wr => L.length - (intOf i).toNat)
  case atStart => exact ⟨0, by omega, rfl, hst, HK1.out⟩
  case round =>
    clear hst HK1
    obtain ⟨k, hk4, rfl, hS, hLk⟩ := hrel
    have HS := Lib.hid hS; have HL := Lib.hid hLk; clear hS hLk
    by_cases hlt : k < L.length
    · have hkl : decide ((k : Int) < (L.length : Int)) = true := by simp; omega
      have hk0 : (0 : Int) ≤ (k : Int) := by omega
      obtain ⟨e, he⟩ : ∃ e, L[k]? = some e := ⟨L[k], List.getElem?_eq_getElem hlt⟩
      obtain ⟨rfl, hro⟩ := hrow (by omega)
      obtain ⟨hfo, -, -⟩ := hlook f o k e wr HS.out he
      obtain ⟨c0, c1, c2, c3⟩ := row_cells (hro wr hfo) he
      have HE := Lib.hid he; clear he hfo hro hrow
      gi_wp2
      have KS := Lib.hid (hdown f o k _ _ HS.out ((Below.refl wr.heap.size wr).alloc (Nat.le_refl _) (.cells #[.int .i64 e.k.f, .int .i64 e.k.t, .int .i64 e.k.p, .int .i64 e.k.i] 128)))
      have KL := Lib.hid (HL.out.below ((Below.refl wr.heap.size wr).alloc (Nat.le_refl _) (.cells #[.int .i64 e.k.f, .int .i64 e.k.t, .int .i64 e.k.p, .int .i64 e.k.i] 128)))
      have KB := Lib.hid (alloc_new wr (.cells #[.int .i64 e.k.f, .int .i64 e.k.t, .int .i64 e.k.p, .int .i64 e.k.i] 128))
      clear c0 c1 c2 c3 HS HL
      generalize wr.alloc (.cells #[.int .i64 e.k.f, .int .i64 e.k.t, .int .i64 e.k.p, .int .i64 e.k.i] 128) = w2 at *
      obtain ⟨-, hbx, m2, es2, clk2, O2, oc2, L2, j2, hT2, hj2⟩ := hlook f o k e w2 KS.out HE.out
      have d0 := (cell_of_box hbx).1
      have d1 := (cell_of_block (k := 0) hT2.tab rfl).1
      have k0' := (cell_of_block (k := 0) KB.out rfl).1; have k1' := (cell_of_block (k := 1) KB.out rfl).1; have k2' := (cell_of_block (k := 2) KB.out rfl).1; have k3' := (cell_of_block (k := 3) KB.out rfl).1
      have hlk := look_some (W := w2.drew) (hT2.kept (fun _ _ => rfl)) hj2 false
      unfold En.ptr at hlk
      obtain ⟨fn, tmps, assign, body, hy, hRn⟩ := hY f o k e w2.drew HE.out (hdown f o k _ _ KS.out (Below.refl _ _).drew) (KL.out.below (Below.refl _ _).drew)
      unfold kArgs at hy
      clear hbx hT2 hj2
      have HRN := Lib.hid (hRn.mono (R' := fun x W' => ∃ b, x = .returned (.bool b) ∧ YP (St f o (k + 1)) Xx l r b W') (fun x W' hx => by
        rcases hx with ⟨q1, q2, q3⟩ | ⟨q1, q2⟩
        · exact ⟨true, q1, .inl ⟨rfl, q2, q3⟩⟩
        · exact ⟨false, q1, .inr ⟨rfl, q2⟩⟩))
      clear hRn
      gi_region_with (refine HRN.out.mono ?_; rintro x W' ⟨b, rfl, hx⟩)
      all_goals
        rcases hx with ⟨rfl, hs, hl⟩ | ⟨rfl, c, hx, hl⟩
        · gi_wp2
          go_roundw
          case rel => exact ⟨k + 1, by omega, by go_num, hs, hl⟩
          case measure => simp [intOf]; omega
        · gi_wp2
          refine bodyPost_ret (results_none rfl _ _ _) rfl ?_
          exact ⟨⟨_, rfl⟩, .inr ⟨c, hx, hl⟩⟩
    · obtain rfl : k = L.length := by omega
      have hkl : decide ((L.length : Int) < (L.length : Int)) = false := by simp
      gi_wp2
      go_end0
      exact ⟨⟨_, rfl⟩, .inl ⟨⟨f, o, HS.out⟩, HL.out⟩⟩
end Go.Proofs.YtmgjcjacoegocaaGreatDoor.Re

namespace Go.Proofs.YtmgjcjacoegocaaGreatDoor.Re
set_option maxRecDepth 100000
open Go.RowKit Go.Proofs.YtmgjcjacoegocaaGreatDoor.Wire
open Go.Proofs.YtmgjcjacoegocaaGreatDoor.Ip (Pk)

def pkEqB (p q : Pk) : Bool := p.f == q.f && p.t == q.t && p.pr == q.pr && p.ttl == q.ttl && p.id == q.id && p.df == q.df && p.mf == q.mf && p.off == q.off && p.s.toList == q.s.toList
theorem pkEqB_iff (p q : Pk) : pkEqB p q = true ↔ p = q := by
  obtain ⟨f, t, pr, ttl, id, df, mf, off, s⟩ := p
  obtain ⟨f', t', pr', ttl', id', df', mf', off', s'⟩ := q
  simp only [pkEqB, Bool.and_eq_true, beq_iff_eq, Pk.mk.injEq]
  constructor
  · rintro ⟨⟨⟨⟨⟨⟨⟨⟨a, b⟩, c⟩, d⟩, e⟩, g⟩, h⟩, i⟩, j⟩
    refine ⟨a, b, c, d, e, g, h, i, ?_⟩
    rw [ByteArray.toList_eq, ByteArray.toList_eq] at j
    exact ByteArray.ext (Array.ext' j)
  · rintro ⟨a, b, c, d, e, g, h, i, j⟩
    exact ⟨⟨⟨⟨⟨⟨⟨⟨a, b⟩, c⟩, d⟩, e⟩, g⟩, h⟩, i⟩, by rw [j]⟩
instance : DecidableEq Pk := fun p q => decidable_of_iff (pkEqB p q = true) (pkEqB_iff p q)
set_option maxHeartbeats 1000000 in
theorem eqPk (p q : Pk) : ∀ w : World, (Op.equalIn 10000 48 (.agg #[.int .i64 p.f, .int .i64 p.t, .int .i64 p.pr, .int .i64 p.ttl, .int .i64 p.id, .bool p.df, .bool p.mf, .int .i64 p.off, .string p.s]) (.agg #[.int .i64 q.f, .int .i64 q.t, .int .i64 q.pr, .int .i64 q.ttl, .int .i64 q.id, .bool q.df, .bool q.mf, .int .i64 q.off, .string q.s])).run Tryz.prog w = .ok (pkEqB p q) w := by
  intro w
  unfold pkEqB
  go_simp
  by_cases h0 : p.f = q.f
  case neg => rw [if_neg h0]; simp [h0]
  rw [if_pos h0]
  by_cases h1 : p.t = q.t
  case neg => rw [if_neg h1]; simp [h1]
  rw [if_pos h1]
  by_cases h2 : p.pr = q.pr
  case neg => rw [if_neg h2]; simp [h2]
  rw [if_pos h2]
  by_cases h3 : p.ttl = q.ttl
  case neg => rw [if_neg h3]; simp [h3]
  rw [if_pos h3]
  by_cases h4 : p.id = q.id
  case neg => rw [if_neg h4]; simp [h4]
  rw [if_pos h4]
  by_cases h5 : p.df = q.df
  case neg => rw [if_neg h5]; simp [h5]
  rw [if_pos h5]
  by_cases h6 : p.mf = q.mf
  case neg => rw [if_neg h6]; simp [h6]
  rw [if_pos h6]
  by_cases h7 : p.off = q.off
  case neg => rw [if_neg h7]; simp [h7]
  rw [if_pos h7]
  by_cases h8 : p.s.toList = q.s.toList
  case neg => rw [if_neg h8]; simp [h8]
  rw [if_pos h8]
  simp [h0, h1, h2, h3, h4, h5, h6, h7, h8]
theorem below_drewN {n : Nat} {a w : World} (h : Below n a w) (k : Nat) : Below n a (w.drewN k) := ⟨h.os, h.tape, h.output, h.size, h.block⟩
def pkC (l : List Pk) : List Value := l.flatMap fun p => [.int .i64 p.f, .int .i64 p.t, .int .i64 p.pr, .int .i64 p.ttl, .int .i64 p.id, .bool p.df, .bool p.mf, .int .i64 p.off, .string p.s]
theorem pkC_length (l : List Pk) : (pkC l).length = l.length * 9 := by
  unfold pkC
  induction l with
  | nil => rfl
  | cons a l ih => simp [ih]; omega
theorem pkC_at : ∀ (l : List Pk) (i r : Nat) (p : Pk), l[i]? = some p → r < 9 → (pkC l)[i * 9 + r]? = ([.int .i64 p.f, .int .i64 p.t, .int .i64 p.pr, .int .i64 p.ttl, .int .i64 p.id, .bool p.df, .bool p.mf, .int .i64 p.off, .string p.s] : List Value)[r]?
  | [], i, r, p, h, _ => by simp at h
  | x :: l, 0, r, p, h, hr => by
    simp at h; subst h
    show (([.int .i64 x.f, .int .i64 x.t, .int .i64 x.pr, .int .i64 x.ttl, .int .i64 x.id, .bool x.df, .bool x.mf, .int .i64 x.off, .string x.s] : List Value) ++ pkC l)[0 * 9 + r]? = _
    rw [List.getElem?_append_left (by simp; omega)]; simp
  | x :: l, i + 1, r, p, h, hr => by
    show (([.int .i64 x.f, .int .i64 x.t, .int .i64 x.pr, .int .i64 x.ttl, .int .i64 x.id, .bool x.df, .bool x.mf, .int .i64 x.off, .string x.s] : List Value) ++ pkC l)[(i + 1) * 9 + r]? = _
    rw [List.getElem?_append_right (by simp; omega)]
    have e : (i + 1) * 9 + r - ([.int .i64 x.f, .int .i64 x.t, .int .i64 x.pr, .int .i64 x.ttl, .int .i64 x.id, .bool x.df, .bool x.mf, .int .i64 x.off, .string x.s] : List Value).length = i * 9 + r := by simp; omega
    rw [e]
    exact pkC_at l i r p (by simpa using h) hr
def PRow (W : World) (lo : Nat) (A : Option Addr) (c : Nat) (l : List Pk) : Prop := W.ownsRow lo 48 9 (.slice A l.length c) l.length (pkC l)
theorem PRow.addr {W : World} {lo : Nat} {A : Option Addr} {c : Nat} {l : List Pk} (h : PRow W lo A c l) (hl : 0 < l.length) : ∃ g, A = some ⟨g, 0, none⟩ ∧ lo ≤ g := by
  rcases h.2 with ⟨e, h0⟩ | ⟨g, cap, cur, e, h1, -⟩
  · omega
  · injection e with e1 e2 e3
    exact ⟨g, e1, h1⟩
theorem PRow.cells {W : World} {lo g c : Nat} {l : List Pk} (h : PRow W lo (some ⟨g, 0, none⟩) c l) {i : Nat} {p : Pk} (hi : l[i]? = some p) :
    W.cell? ⟨g, i * 9, none⟩ = some (.int .i64 p.f) ∧ W.cell? ⟨g, i * 9 + 1, none⟩ = some (.int .i64 p.t) ∧ W.cell? ⟨g, i * 9 + 2, none⟩ = some (.int .i64 p.pr) ∧ W.cell? ⟨g, i * 9 + 3, none⟩ = some (.int .i64 p.ttl) ∧ W.cell? ⟨g, i * 9 + 4, none⟩ = some (.int .i64 p.id) ∧ W.cell? ⟨g, i * 9 + 5, none⟩ = some (.bool p.df) ∧ W.cell? ⟨g, i * 9 + 6, none⟩ = some (.bool p.mf) ∧ W.cell? ⟨g, i * 9 + 7, none⟩ = some (.int .i64 p.off) ∧ W.cell? ⟨g, i * 9 + 8, none⟩ = some (.string p.s) := by
  have hc : ∀ r u, r < 9 → ([.int .i64 p.f, .int .i64 p.t, .int .i64 p.pr, .int .i64 p.ttl, .int .i64 p.id, .bool p.df, .bool p.mf, .int .i64 p.off, .string p.s] : List Value)[r]? = some u → W.cell? ⟨g, i * 9 + r, none⟩ = some u := fun r u hr hu => by
    have := World.ownsRow.cells h rfl (i * 9 + r) u (by rw [pkC_at l i r p hi hr]; exact hu)
    have e : (⟨g, 0, none⟩ : Addr).add (i * 9 + r) = ⟨g, i * 9 + r, none⟩ := by unfold Addr.add; split <;> simp_all
    rw [e] at this; exact this
  exact ⟨hc 0 _ (by omega) rfl, hc 1 _ (by omega) rfl, hc 2 _ (by omega) rfl, hc 3 _ (by omega) rfl, hc 4 _ (by omega) rfl, hc 5 _ (by omega) rfl, hc 6 _ (by omega) rfl, hc 7 _ (by omega) rfl, hc 8 _ (by omega) rfl⟩
theorem PRow.kept {W W' : World} {lo : Nat} {A : Option Addr} {c : Nat} {l : List Pk} (h : PRow W lo A c l) (hk : ∀ a, A = some a → W'.heap[a.block]? = W.heap[a.block]?) : PRow W' lo A c l := by
  refine ⟨h.1, ?_⟩
  rcases h.2 with q | ⟨g, cap, cur, e, q1, q2, q3⟩
  · exact .inl q
  · injection e with e1 e2 e3
    subst e1
    exact .inr ⟨g, cap, cur, by rw [e3], q1, (hk _ rfl).trans q2, q3⟩
theorem PRow.lt {W : World} {lo : Nat} {a : Addr} {c : Nat} {l : List Pk} (h : PRow W lo (some a) c l) : a.block < W.heap.size := by
  rcases h.2 with ⟨e, h0⟩ | ⟨g, cap, cur, e, q1, q2, q3⟩
  · cases e
  · injection e with e1 e2 e3
    cases e1
    exact blk_lt q2
theorem PRow.below {W W' : World} {lo : Nat} {A : Option Addr} {c : Nat} {l : List Pk} (h : PRow W lo A c l) (hb : Below W.heap.size W W') : PRow W' lo A c l := h.kept fun a e => by subst e; exact hb.block _ h.lt
theorem PRow.nil (W : World) (lo : Nat) : PRow W lo none 0 [] := ⟨rfl, .inl ⟨rfl, rfl⟩⟩
end Go.Proofs.YtmgjcjacoegocaaGreatDoor.Re

namespace Go.Proofs.YtmgjcjacoegocaaGreatDoor.Re
set_option maxRecDepth 100000
open Go.RowKit Go.Proofs.YtmgjcjacoegocaaGreatDoor.Wire Go.Shelf
open Go.Proofs.YtmgjcjacoegocaaGreatDoor.Ip (Pk)
attribute [local go_sem] Oper.semAt_some

/-- is the datagram too old? -/
def oldB (now : Int) (H : Hf) : Bool := decide (H.start ≤ now ∧ 30 ≤ now - H.start)
def keepT (now : Int) (L : List En) : List En := L.filter fun e => !oldB now e.H
/-- the first fragments that are told -/
def toldT (now : Int) (L : List En) : List Pk := (L.filter fun e => oldB now e.H && e.H.started).map fun e => e.H.first
/-- the blocks of the walk: boxes of the table's pointer, of the time, of the result; the iterator's box; the loop's two -/
structure TBox (w : World) (T : Nat) (now : Int) (W : World) : Prop where
  bx : BoxT W w.heap.size T
  nb : W.heap[w.heap.size + 1]? = some (.cells #[.int .i64 now] 3)
  ix : BoxT W (w.heap.size + 3) T
/-- the result so far -/
def TOut (w : World) (n : Nat) (l : List Pk) (f : Nat) (W : World) : Prop := ∃ A c, n = l.length ∧ W.heap[w.heap.size + 2]? = some (.cells #[.slice A n c] 44) ∧ W.ownsRow w.heap.size 48 9 (.slice A n c) n (pkC l) ∧ ∀ a, A = some a → w.heap.size + 6 ≤ a.block ∧ a.block ≠ f
/-- the state ahead of round i -/
structure TSt (w : World) (T m : Nat) (clk : Nat) (O : Option Addr) (oc : Nat) (now : Int) (L : List En) (f : Nat) (o : Obj) (i : Nat) (W : World) : Prop where
  tab : ∃ es, Tab W T m es clk O oc (keepT now (L.take i) ++ L.drop i)
  chg : Chg (TOwn T m O L) w W
  box : TBox w T now W
  out : TOut w (toldT now (L.take i)).length (toldT now (L.take i)) f W
  fo : W.heap[f]? = some o
  big : w.heap.size + 6 ≤ W.heap.size
  fl : w.heap.size + 4 ≤ f ∧ f ≠ w.heap.size + 5
section
variable {w : World} {T m : Nat} {clk : Nat} {O : Option Addr} {oc : Nat} {now : Int} {L : List En} {f : Nat} {o : Obj} {i : Nat} {W W' : World}
theorem TOut.kept {n : Nat} {l : List Pk} (h : TOut w n l f W) (hk : ∀ q, (q = w.heap.size + 2 ∨ w.heap.size + 6 ≤ q) → q < W.heap.size → W'.heap[q]? = W.heap[q]?) : TOut w n l f W' := by
  obtain ⟨A, c, h0, h1, h2, h3⟩ := h
  refine ⟨A, c, h0, (hk _ (.inl rfl) (blk_lt h1)).trans h1, ?_, h3⟩
  refine ⟨h2.1, ?_⟩
  rcases h2.2 with q | ⟨g, cap, cur, e, q1, q2, q3⟩
  · exact .inl q
  · injection e with e1 e2 e3
    subst e1
    exact .inr ⟨g, cap, cur, by rw [e3], q1, (hk g (.inr (h3 _ rfl).1) (blk_lt q2)).trans q2, q3⟩
/-- all blocks stand but the loop's record and what is new -/
theorem TSt.kept (h : TSt w T m clk O oc now L f o i W) (hT0 : ∀ q, TOwn T m O L q → q < w.heap.size) (hsz : W.heap.size ≤ W'.heap.size) (hos : W'.os = W.os ∧ W'.tape = W.tape ∧ W'.output = W.output) (hk : ∀ q, q ≠ w.heap.size + 5 → q < W.heap.size → W'.heap[q]? = W.heap[q]?) : TSt w T m clk O oc now L f o i W' := by
  obtain ⟨es, ht⟩ := h.tab
  have hown : ∀ q, TOwn T m O (keepT now (L.take i) ++ L.drop i) q → q < w.heap.size := fun q hq => hT0 q (by
    rcases hq with r | r | r | ⟨e, he, r⟩
    · exact .inl r
    · exact .inr (.inl r)
    · exact .inr (.inr (.inl r))
    · refine .inr (.inr (.inr ⟨e, ?_, r⟩))
      rcases List.mem_append.1 he with he | he
      · exact List.mem_of_mem_take (List.mem_filter.1 he).1
      · exact List.mem_of_mem_drop he)
  have hsw := h.big
  exact ⟨⟨es, ht.kept (fun q hq => hk q (by have := hown q hq; omega) (ht.lt hq))⟩, ⟨hos.1.trans h.chg.os, hos.2.1.trans h.chg.tape, hos.2.2.trans h.chg.output, Nat.le_trans h.chg.size hsz, fun q hq hn => (hk q (by omega) (by omega)).trans (h.chg.block q hq hn)⟩,
    ⟨(hk _ (by omega) (blk_lt h.box.bx)).trans h.box.bx, (hk _ (by omega) (blk_lt h.box.nb)).trans h.box.nb, (hk _ (by omega) (blk_lt h.box.ix)).trans h.box.ix⟩,
    h.out.kept (fun q hq hl => hk q (by omega) hl), (hk _ h.fl.2 (blk_lt h.fo)).trans h.fo, by omega, h.fl⟩
theorem TSt.below (h : TSt w T m clk O oc now L f o i W) (hT0 : ∀ q, TOwn T m O L q → q < w.heap.size) (hb : Below W.heap.size W W') : TSt w T m clk O oc now L f o i W' := h.kept hT0 hb.size ⟨hb.os, hb.tape, hb.output⟩ (fun q _ hq => hb.block q hq)
theorem TSt.put (h : TSt w T m clk O oc now L f o i W) (hT0 : ∀ q, TOwn T m O L q → q < w.heap.size) (x : Obj) : TSt w T m clk O oc now L f o i (W.putObj (w.heap.size + 5) x) := h.kept hT0 (by simp [World.putObj]) ⟨rfl, rfl, rfl⟩ (fun q hne _ => World.putObj_heap_other hne)
end
theorem age_eq (now st : Int) (h1 : -9223372036854775808 ≤ now ∧ now ≤ 9223372036854775807) (h2 : -9223372036854775808 ≤ st ∧ st ≤ 9223372036854775807) (h : st ≤ now) : IntKind.u64.wrap (IntKind.u64.wrap now - IntKind.u64.wrap st) = now - st := by
  simp only [IntKind.wrap_u64]; omega
theorem take_snoc' {L : List En} {i : Nat} {e : En} (he : L[i]? = some e) : L.take (i + 1) = L.take i ++ [e] := by
  rw [List.take_add_one, he]; rfl
theorem drop_cons' {L : List En} {i : Nat} {e : En} (he : L[i]? = some e) : L.drop i = e :: L.drop (i + 1) := by
  obtain ⟨hi, rfl⟩ := List.getElem?_eq_some_iff.1 he
  exact List.drop_eq_getElem_cons hi
theorem rest_keep {now : Int} {L : List En} {i : Nat} {e : En} (he : L[i]? = some e) (hn : oldB now e.H = false) : keepT now (L.take (i + 1)) ++ L.drop (i + 1) = keepT now (L.take i) ++ L.drop i ∧ toldT now (L.take (i + 1)) = toldT now (L.take i) := by
  rw [take_snoc' he, drop_cons' he]
  simp [keepT, toldT, List.filter_append, hn]
theorem rest_drop {now : Int} {L : List En} {i : Nat} {e : En} (he : L[i]? = some e) (ho : oldB now e.H = true) : (keepT now (L.take i) ++ L.drop i).eraseIdx (keepT now (L.take i)).length = keepT now (L.take (i + 1)) ++ L.drop (i + 1) := by
  rw [List.eraseIdx_append_of_length_le (Nat.le_refl _), Nat.sub_self, drop_cons' he, take_snoc' he]
  simp [keepT, List.filter_append, ho]
theorem told_no {now : Int} {L : List En} {i : Nat} {e : En} (he : L[i]? = some e) (hs : e.H.started = false) : toldT now (L.take (i + 1)) = toldT now (L.take i) := by
  rw [take_snoc' he]
  simp [toldT, List.filter_append, hs]
theorem told_yes {now : Int} {L : List En} {i : Nat} {e : En} (he : L[i]? = some e) (ho : oldB now e.H = true) (hs : e.H.started = true) : toldT now (L.take (i + 1)) = toldT now (L.take i) ++ [e.H.first] := by
  rw [take_snoc' he]
  simp [toldT, List.filter_append, hs, ho]
theorem told_le {now : Int} {L : List En} {i : Nat} : (toldT now (L.take i)).length ≤ L.length := by
  have h1 := List.length_filter_le (fun e => oldB now e.H && e.H.started) (L.take i)
  have h2 := List.length_take (i := i) (l := L)
  unfold toldT
  rw [List.length_map]; omega
theorem rest_le {now : Int} {L : List En} {i : Nat} : (keepT now (L.take i) ++ L.drop i).length ≤ L.length := by
  have h1 := List.length_filter_le (fun e => !oldB now e.H) (L.take i)
  have h2 := List.length_take (i := i) (l := L)
  unfold keepT
  rw [List.length_append, List.length_drop]; omega
/-- what holds in the middle of a round: the entries Lk, the result l -/
structure TM (w : World) (T m : Nat) (clk : Nat) (O : Option Addr) (oc : Nat) (now : Int) (L : List En) (f : Nat) (o : Obj) (Lk : List En) (l : List Pk) (W : World) : Prop where
  tab : ∃ es, Tab W T m es clk O oc Lk
  sub : ∀ e ∈ Lk, e ∈ L
  chg : Chg (TOwn T m O L) w W
  box : TBox w T now W
  out : TOut w l.length l f W
  fo : W.heap[f]? = some o
  big : w.heap.size + 6 ≤ W.heap.size
  fl : w.heap.size + 4 ≤ f ∧ f ≠ w.heap.size + 5
theorem rest_sub {now : Int} {L : List En} {i : Nat} : ∀ e ∈ keepT now (L.take i) ++ L.drop i, e ∈ L := fun e he => by
  rcases List.mem_append.1 he with he | he
  · exact List.mem_of_mem_take (List.mem_filter.1 he).1
  · exact List.mem_of_mem_drop he
section
variable {w : World} {T m : Nat} {clk : Nat} {O : Option Addr} {oc : Nat} {now : Int} {L : List En} {f : Nat} {o : Obj} {i : Nat} {Lk : List En} {l : List Pk} {W W' : World}
theorem TSt.mid (h : TSt w T m clk O oc now L f o i W) : TM w T m clk O oc now L f o (keepT now (L.take i) ++ L.drop i) (toldT now (L.take i)) W := ⟨h.tab, rest_sub, h.chg, h.box, h.out, h.fo, h.big, h.fl⟩
theorem TM.st (h : TM w T m clk O oc now L f o Lk l W) (h1 : Lk = keepT now (L.take i) ++ L.drop i) (h2 : l = toldT now (L.take i)) : TSt w T m clk O oc now L f o i W := by subst h1; subst h2; exact ⟨h.tab, h.chg, h.box, h.out, h.fo, h.big, h.fl⟩
theorem TM.own (h : TM w T m clk O oc now L f o Lk l W) {q : Nat} (hq : TOwn T m O Lk q) : TOwn T m O L q := by
  rcases hq with r | r | r | ⟨e, he, r⟩
  · exact .inl r
  · exact .inr (.inl r)
  · exact .inr (.inr (.inl r))
  · exact .inr (.inr (.inr ⟨e, h.sub e he, r⟩))
/-- an entry is struck out -/
theorem TM.rem (h : TM w T m clk O oc now L f o Lk l W) (hT0 : ∀ q, TOwn T m O L q → q < w.heap.size) {j : Nat} (hc : Chg (S3 T m O) W W') (ht : ∃ es, Tab W' T m es clk O oc (Lk.eraseIdx j)) : TM w T m clk O oc now L f o (Lk.eraseIdx j) l W' := by
  have hS : ∀ q, S3 T m O q → TOwn T m O L q := fun q hq => by
    rcases hq with r | r | r
    · exact .inl r
    · exact .inr (.inl r)
    · exact .inr (.inr (.inl r))
  have hb := h.big
  have hk : ∀ q, w.heap.size ≤ q → q < W.heap.size → W'.heap[q]? = W.heap[q]? := fun q h1 h2 => hc.block q h2 (fun r => by have := hT0 q (hS q r); omega)
  exact ⟨ht, fun e he => h.sub e ((List.eraseIdx_sublist _ _).subset he), h.chg.trans hc (fun q hq => .inl (hS q hq)),
    ⟨(hk _ (by omega) (blk_lt h.box.bx)).trans h.box.bx, (hk _ (by omega) (blk_lt h.box.nb)).trans h.box.nb, (hk _ (by omega) (blk_lt h.box.ix)).trans h.box.ix⟩,
    h.out.kept (fun q hq hl => hk q (by omega) hl), (hk _ (by have := h.fl; omega) (blk_lt h.fo)).trans h.fo, Nat.le_trans hb hc.size, h.fl⟩
theorem TM.below (h : TM w T m clk O oc now L f o Lk l W) (hb : Below W.heap.size W W') : TM w T m clk O oc now L f o Lk l W' := by
  obtain ⟨es, ht⟩ := h.tab
  exact ⟨⟨es, ht.below hb⟩, h.sub, h.chg.call hb, ⟨bblock hb h.box.bx, bblock hb h.box.nb, bblock hb h.box.ix⟩, h.out.kept (fun q _ hl => hb.block q hl), bblock hb h.fo, Nat.le_trans h.big hb.size, h.fl⟩
/-- a packet is appended to the result -/
theorem TM.app {W1 : World} {g cap : Nat} {A : Option Addr} {c : Nat} {p : Pk} (h : TM w T m clk O oc now L f o Lk l W) (hT0 : ∀ q, TOwn T m O L q → q < w.heap.size) (hA : ∀ a, A = some a → w.heap.size + 6 ≤ a.block ∧ a.block ≠ f)
    (ho : W1.ownsRow w.heap.size 48 9 (.slice (some ⟨g, 0, none⟩) (l.length + 1) cap) (l.length + 1) (pkC l ++ [.int .i64 p.f, .int .i64 p.t, .int .i64 p.pr, .int .i64 p.ttl, .int .i64 p.id, .bool p.df, .bool p.mf, .int .i64 p.off, .string p.s])) (hg : W.grownBy W1 (Value.ownBlock (.slice A l.length c))) (hw : Value.ownBlock (.slice A l.length c) = some g ∨ W.heap.size ≤ g) :
    TM w T m clk O oc now L f o Lk (l ++ [p]) (W1.setCell ⟨w.heap.size + 2, 0, none⟩ (.slice (some ⟨g, 0, none⟩) (l.length + 1) cap)) := by
  have hb := h.big
  have hflt := blk_lt h.fo
  have hob : ∀ k, Value.ownBlock (.slice A l.length c) = some k → w.heap.size + 6 ≤ k ∧ k ≠ f := fun k e => by
    cases A with
    | none => cases e
    | some a => have := hA a rfl; have e2 : a.block = k := by simpa [Value.ownBlock] using e
                rw [← e2]; exact this
  have hgb : w.heap.size + 6 ≤ g ∧ g ≠ f := by
    rcases hw with q | q
    · exact hob g q
    · omega
  have hk : ∀ q, q < w.heap.size + 6 ∨ q = f → q < W.heap.size → q ≠ w.heap.size + 2 → (W1.setCell ⟨w.heap.size + 2, 0, none⟩ (.slice (some ⟨g, 0, none⟩) (l.length + 1) cap)).heap[q]? = W.heap[q]? := fun q hq hl hne => by
    rw [Below.heap_setCell _ _ _ _ (by exact hne)]
    exact hg.block q hl (fun e => by have := hob q e.symm; omega)
  obtain ⟨es, ht⟩ := h.tab
  obtain ⟨A', c', -, hbx, -, -⟩ := h.out
  have hbx1 : W1.heap[w.heap.size + 2]? = some (.cells #[.slice A' l.length c'] 44) := (hg.block _ (blk_lt hbx) (fun e => by have := hob _ e.symm; omega)).trans hbx
  refine ⟨⟨es, ht.kept (fun q hq => hk q (.inl (by have := hT0 q (h.own hq); omega)) (ht.lt hq) (by have := hT0 q (h.own hq); omega))⟩, h.sub, ?_,
    ⟨(hk _ (.inl (by omega)) (blk_lt h.box.bx) (by omega)).trans h.box.bx, (hk _ (.inl (by omega)) (blk_lt h.box.nb) (by omega)).trans h.box.nb, (hk _ (.inl (by omega)) (blk_lt h.box.ix) (by omega)).trans h.box.ix⟩, ?_, (hk _ (.inr rfl) hflt (by have := h.fl; omega)).trans h.fo, ?_, h.fl⟩
  · exact (h.chg.grown hg (fun k e => .inr (by have := hob k e; omega))).set (.inr (by show w.heap.size ≤ w.heap.size + 2; omega)) _
  · refine ⟨some ⟨g, 0, none⟩, cap, by simp, ?_, ?_, fun a e => by cases e; exact hgb⟩
    · rw [block_setCell (k := 0) hbx1]; simp
    · have hC : pkC (l ++ [p]) = pkC l ++ [.int .i64 p.f, .int .i64 p.t, .int .i64 p.pr, .int .i64 p.ttl, .int .i64 p.id, .bool p.df, .bool p.mf, .int .i64 p.off, .string p.s] := by simp [pkC, List.flatMap_append]
      have hN : (l ++ [p]).length = l.length + 1 := by simp
      rw [hC, hN]
      refine ⟨ho.1, ?_⟩
      rcases ho.2 with q | ⟨g', cap', cur, e, q1, q2, q3⟩
      · exact .inl q
      · injection e with e1 e2 e3
        cases e1
        subst e3
        exact .inr ⟨g, cap, cur, rfl, q1, (Below.heap_setCell _ _ _ _ (by show g ≠ w.heap.size + 2; omega)).trans q2, q3⟩
  · have := hg.size
    show _ ≤ (World.setCell _ _ _).heap.size
    simp [World.setCell]; omega
end
theorem inOrder_any (T : Nat) (w : World) : Calls Tryz.prog 91 #[.pointer (some ⟨T, 0, none⟩)] w fun x w' =>
    x = .returned (.func (Fn.func 115) #[] #[.pointer (some ⟨w.heap.size, 0, none⟩)]) ∧ w' = w.alloc (.cells #[.pointer (some ⟨T, 0, none⟩)] 49) := by
  go_enter Tryz.func91, Tryz.ntmps91
  go_wp2_with fail
  go_ret
  exact ⟨rfl, rfl⟩
def TickPost (w : World) (T m : Nat) (clk : Nat) (O : Option Addr) (oc : Nat) (now : Int) (L : List En) (x : Ending) (w' : World) : Prop :=
  ∃ es A c, x = .returned (.slice A (toldT now L).length c) ∧ w'.ownsRow w.heap.size 48 9 (.slice A (toldT now L).length c) (toldT now L).length (pkC (toldT now L)) ∧ Tab w' T m es clk O oc (keepT now L) ∧ Chg (TOwn T m O L) w w'
def argK (L : List En) (i : Nat) : Array Value := kArgs (L.getD i (newE ⟨0, 0, 0, 0⟩ 0 0))
theorem argK_of {L : List En} {i : Nat} {e : En} (h : L[i]? = some e) : argK L i = kArgs e := by unfold argK; rw [List.getD_eq_getElem?_getD, h]; rfl
/-- the state behind the assignment of a round -/
structure TJA (w : World) (T m : Nat) (clk : Nat) (O : Option Addr) (oc : Nat) (now : Int) (L : List En) (x : Nat × Nat × Obj) (a : Act) (W : World) : Prop where
  st : TSt w T m clk O oc now L x.2.1 x.2.2 x.1 W
  fr : ∃ (e : En) (kb : Nat), L[x.1]? = some e ∧ w.heap.size + 6 ≤ kb ∧ W.heap[kb]? = some (.cells #[.int .i64 e.k.f, .int .i64 e.k.t, .int .i64 e.k.p, .int .i64 e.k.i] 128) ∧
    a = { tmps := #[.pointer (some ⟨T, 0, none⟩), .int .i64 now, .pointer (some ⟨w.heap.size, 0, none⟩), .pointer (some ⟨w.heap.size + 1, 0, none⟩), .slice none 0 0, .pointer (some ⟨w.heap.size + 2, 0, none⟩), .pointer (some ⟨kb, 0, none⟩), .pointer (some ⟨e.hb, 0, none⟩), .pointer (some ⟨T, 0, none⟩), .bool false, .pointer (some ⟨T, 0, none⟩), .func (Fn.func 115) #[] #[.pointer (some ⟨w.heap.size + 3, 0, none⟩)], .agg #[.int .i64 e.k.f, .int .i64 e.k.t, .int .i64 e.k.p, .int .i64 e.k.i], .pointer (some ⟨e.hb, 0, none⟩), undef, undef, undef, undef, undef, undef, undef, undef, undef, undef, undef, undef, undef, undef, undef, undef, undef, undef, undef, undef, undef, undef, undef, undef, undef, undef, undef, undef, undef, undef, undef, undef], defers := [] }
theorem infoPkA : (Tryz.prog.info? 48).map (fun i => (i.zero, i.size, i.bytes)) = some (some (.agg #[.int .i64 0, .int .i64 0, .int .i64 0, .int .i64 0, .int .i64 0, .bool false, .bool false, .int .i64 0, .string ⟨#[]⟩]), 9, 72) := by kernel_rfl
end Go.Proofs.YtmgjcjacoegocaaGreatDoor.Re

namespace Go.Proofs.YtmgjcjacoegocaaGreatDoor.Re
set_option maxRecDepth 100000
open Go.RowKit Go.Proofs.YtmgjcjacoegocaaGreatDoor.Wire
open Go.Proofs.YtmgjcjacoegocaaGreatDoor.Ip (Pk vlenB)

def In64 (n : Int) : Prop := -9223372036854775808 ≤ n ∧ n ≤ 9223372036854775807
theorem layN_start (s : ByteArray) (o : Nat) (H : Hf) : ∀ n, (layN s o H n).start = H.start ∧ (layN s o H n).started = H.started ∧ (layN s o H n).first = H.first ∧ (layN s o H n).rej = H.rej ∧ (layN s o H n).ended = H.ended ∧ (layN s o H n).en = H.en
  | 0 => ⟨rfl, rfl, rfl, rfl, rfl, rfl⟩
  | n + 1 => by
    have ih := layN_start s o H n
    show (laySet (layN s o H n) _ _).start = _ ∧ (laySet (layN s o H n) _ _).started = _ ∧ (laySet (layN s o H n) _ _).first = _ ∧ (laySet (layN s o H n) _ _).rej = _ ∧ (laySet (layN s o H n) _ _).ended = _ ∧ (laySet (layN s o H n) _ _).en = _
    unfold laySet
    split
    · exact ih
    · exact ih
theorem storeF_start (H : Hf) (p : Pk) : (storeF H p).start = H.start := by
  have h := (layN_start p.s p.off.toNat (growF H (p.off.toNat + p.s.size)) p.s.size).1
  unfold storeF firstF endF
  split <;> split <;> exact h
theorem putA_start (A : List (Ky × Hf)) (now : Int) (p : Pk) : ∀ x ∈ (putA A now p).1, x.2.start = now ∨ ∃ y ∈ A, x.2.start = y.2.start := by
  have hset : ∀ (A : List (Ky × Hf)) (i : Nat) (k : Ky) (H : Hf) (x : Ky × Hf), x ∈ (A.set i (k, H)) → x ∈ A ∨ x.2.start = H.start := fun A i k H x hx => by
    rcases List.mem_or_eq_of_mem_set hx with q | q
    · exact .inl q
    · exact .inr (by rw [q])
  have key : ∀ (A : List (Ky × Hf)) (i : Nat) (k : Ky) (H : Hf), ∀ x ∈ (putH A i k H p).1, x ∈ A ∨ x.2.start = H.start := fun A i k H x hx => by
    unfold putH at hx
    split at hx
    · exact .inl hx
    · split at hx
      · exact hset A i k (rejF H) x hx
      · split at hx
        · exact .inl ((List.eraseIdx_sublist _ _).subset hx)
        · exact (hset A i k (storeF H p) x hx).imp id (fun q => q.trans (storeF_start H p))
  intro x hx
  unfold putA at hx
  split at hx
  · exact .inr ⟨x, hx, rfl⟩
  · split at hx
    · exact .inr ⟨x, hx, rfl⟩
    · split at hx
      · rename_i i hi
        rcases key _ _ _ _ x hx with q | q
        · exact .inr ⟨x, q, rfl⟩
        · cases hA : A[i]? with
          | none => rw [hA] at q; exact .inl q
          | some y => rw [hA] at q; exact .inr ⟨y, List.mem_of_getElem? hA, q⟩
      · rcases key _ _ _ _ x hx with q | q
        · rcases List.mem_append.1 q with q | q
          · exact .inr ⟨x, q, rfl⟩
          · simp at q; rw [q]; exact .inl rfl
        · exact .inl q
/-- the table at T holds the datagrams A, and owns the blocks S -/
structure TT (W : World) (T : Nat) (A : List (Ky × Hf)) (S : Nat → Prop) : Prop where
  tab : ∃ m es clk O oc L, Tab W T m es clk O oc L ∧ (∀ e ∈ L, HInv e.H) ∧ abs L = A ∧ ∀ q, TOwn T m O L q → S q
  lt : ∀ q, S q → q < W.heap.size
  st : ∀ x ∈ A, In64 x.2.start
theorem TT.kept {W W' : World} {T : Nat} {A : List (Ky × Hf)} {S : Nat → Prop} (h : TT W T A S) (hz : W.heap.size ≤ W'.heap.size) (hk : ∀ q, S q → W'.heap[q]? = W.heap[q]?) : TT W' T A S := by
  obtain ⟨m, es, clk, O, oc, L, h1, h2, h3, h4⟩ := h.tab
  exact ⟨⟨m, es, clk, O, oc, L, h1.kept (fun q hq => hk q (h4 q hq)), h2, h3, h4⟩, fun q hq => Nat.lt_of_lt_of_le (h.lt q hq) hz, h.st⟩
theorem TT.below {W W' : World} {T : Nat} {A : List (Ky × Hf)} {S : Nat → Prop} (h : TT W T A S) (hb : Below W.heap.size W W') : TT W' T A S := h.kept hb.size (fun q hq => hb.block q (h.lt q hq))
theorem TT.chg {W W' : World} {T : Nat} {A : List (Ky × Hf)} {S S2 : Nat → Prop} (h : TT W T A S) (hc : Chg S2 W W') (hd : ∀ q, S q → ¬ S2 q) : TT W' T A S := h.kept hc.size (fun q hq => hc.block q (h.lt q hq) (hd q hq))
theorem keyed_iff (A : List (Ky × Hf)) (L : List En) (h : abs L = A) (k : Ky) : k ∈ A.map (·.1) ↔ k ∈ L.map (·.k) := by rw [← h, abs_keys]
/-- what Put makes of a table -/
def PutW (S : Nat → Prop) (w : World) (T : Nat) (r : List (Ky × Hf) × Pk × Bool × Int) (x : Ending) (w' : World) : Prop :=
  x = PutRes r.2.1 r.2.2.1 r.2.2.2 ∧ ∃ S' : Nat → Prop, TT w' T r.1 S' ∧ Chg S w w' ∧ ∀ q, S' q → S q ∨ w.heap.size ≤ q
theorem put_any (T : Nat) (A : List (Ky × Hf)) (S : Nat → Prop) (now : Int) (p : Pk) (w : World) (h : TT w T A S) (hs : p.s.size ≤ 9223372036854775807) (hL : A.length < 8 ∨ keyOf p ∈ A.map (·.1)) (hl9 : A.length ≤ 900) (hnow : In64 now) :
    Calls Tryz.prog 12 #[.pointer (some ⟨T, 0, none⟩), .int .i64 now, .agg #[.int .i64 p.f, .int .i64 p.t, .int .i64 p.pr, .int .i64 p.ttl, .int .i64 p.id, .bool p.df, .bool p.mf, .int .i64 p.off, .string p.s]] w (PutW S w T (putA A now p)) := by
  have same : ∀ (x : Ending) (w' : World) (q : Pk) (b : Bool) (e : Int), putA A now p = (A, q, b, e) → x = PutRes q b e ∧ Below w.heap.size w w' → PutW S w T (putA A now p) x w' := fun x w' q b e he hx => by
    rw [he]
    exact ⟨hx.1, S, h.below hx.2, Chg.of_below hx.2, fun _ r => .inl r⟩
  cases hv : vldB p with
  | false => exact (put_bad T now p w hv hs).mono fun x w' hx => same x w' _ _ _ (by unfold putA; rw [if_pos hv]) hx
  | true =>
    by_cases hf : p.mf = false ∧ p.off = 0
    · exact (put_whole T now p w hv hf.1 hf.2 hs).mono fun x w' hx => same x w' _ _ _ (by unfold putA; rw [if_neg (by rw [hv]; simp), if_pos hf]) hx
    · have hf' : p.mf = true ∨ p.off ≠ 0 := by
        cases hm : p.mf with
        | true => exact .inl rfl
        | false => exact .inr fun h0 => hf ⟨hm, h0⟩
      obtain ⟨m, es, clk, O, oc, L, h1, h2, h3, h4⟩ := h.tab
      have hl : L.length = A.length := by rw [← h3]; simp [abs]
      refine (put_main T m es clk O oc L now p w h1 h2 hv hf' hs (by rw [hl]; exact hL.imp id (fun q => (keyed_iff A L h3 _).1 q)) (by omega)).mono ?_
      rintro x w' ⟨hx, es', clk', O', oc', L', t1, t2, t3, t4, t5⟩
      rw [h3] at hx t2
      refine ⟨hx, fun q => TOwn T m O' L' q, ⟨⟨m, es', clk', O', oc', L', t1, t3, t2, fun _ r => r⟩, fun q hq => t1.lt hq, fun x hx => ?_⟩, t4.mono h4, fun q hq => (t5 q hq).imp (h4 q) id⟩
      rcases putA_start A now p x hx with q | ⟨y, hy, q⟩
      · rw [q]; exact hnow
      · rw [q]; exact h.st y hy
/-- Tick in plain data -/
def keepA (now : Int) (A : List (Ky × Hf)) : List (Ky × Hf) := A.filter fun x => !oldB now x.2
def toldA (now : Int) (A : List (Ky × Hf)) : List Pk := (A.filter fun x => oldB now x.2 && x.2.started).map fun x => x.2.first
theorem keepA_abs (now : Int) (L : List En) : abs (keepT now L) = keepA now (abs L) := by
  unfold abs keepT keepA
  rw [List.filter_map]
  rfl
theorem toldA_abs (now : Int) (L : List En) : toldT now L = toldA now (abs L) := by
  unfold abs toldT toldA
  rw [List.filter_map, List.map_map]
  rfl
def TickW (S : Nat → Prop) (w : World) (T : Nat) (A : List (Ky × Hf)) (now : Int) (x : Ending) (w' : World) : Prop :=
  ∃ B c, x = .returned (.slice B (toldA now A).length c) ∧ w'.ownsRow w.heap.size 48 9 (.slice B (toldA now A).length c) (toldA now A).length (pkC (toldA now A)) ∧ TT w' T (keepA now A) S ∧ Chg S w w'
end Go.Proofs.YtmgjcjacoegocaaGreatDoor.Re

namespace Go.Proofs.YtmgjcjacoegocaaGreatDoor.Re
set_option maxRecDepth 100000
open Go.RowKit Go.Proofs.YtmgjcjacoegocaaGreatDoor.Wire
open Go.Proofs.YtmgjcjacoegocaaGreatDoor.Ip (Pk)

def NewPostT (w : World) (x : Ending) (w' : World) : Prop := ∃ T m clk, x = .returned (.pointer (some ⟨T, 0, none⟩)) ∧ Tab w' T m #[] clk none 0 [] ∧ Below w.heap.size w w' ∧ w.heap.size ≤ T ∧ w.heap.size ≤ m
theorem new_tab (w : World) : Calls Tryz.prog 11 #[] w (NewPostT w) := by
  have hmm := @run_makeMap Tryz.prog
  go_enter Tryz.func11, Tryz.ntmps11
  go_wp2_with fail
  go_ret
  refine ⟨w.heap.size + 1, w.heap.size, _, by simp, ⟨alloc_new' _ _ _ (by simp), block_alloc (alloc_new _ _) _, ⟨rfl, rfl⟩, List.nodup_nil, ⟨fun x hx => by simp at hx, by simp⟩, .inl ⟨rfl, rfl, rfl, rfl⟩, fun e he => by simp at he, by omega, fun a q => (by cases q), fun e he => by simp at he, fun i j e f he => by simp at he⟩, below_alloc (below_alloc (Below.refl _ _)), by omega, Nat.le_refl _⟩

/-- the bytes of the datagrams that have not been seen -/
def sumU : List MapEntry → List En → Array Nat → Int
  | x :: l, e :: L, s => (if s.contains x.born then 0 else e.H.cnt) + sumU l L s
  | _, _, _ => 0
theorem sumU_push_other : ∀ (l : List MapEntry) (L : List En) (s : Array Nat) (b : Nat), b ∉ l.map (·.born) → sumU l L (s.push b) = sumU l L s
  | [], L, s, b, _ => by cases L <;> rfl
  | x :: l, [], s, b, _ => rfl
  | x :: l, e :: L, s, b, h => by
    simp only [List.map_cons, List.mem_cons, not_or] at h
    simp only [sumU, sumU_push_other l L s b h.2]
    congr 1
    have : (s.push b).contains x.born = s.contains x.born := by
      rw [Bool.eq_iff_iff]
      simp only [Array.contains_iff_mem, Array.mem_push]
      exact ⟨fun q => q.resolve_right (fun r => h.1 r.symm), .inl⟩
    rw [this]
theorem sumU_step : ∀ (l : List MapEntry) (L : List En) (s : Array Nat) (x : MapEntry), l.map (·.val) = L.map En.ptr → (l.map (·.born)).Nodup → x ∈ l → s.contains x.born = false →
    ∃ e ∈ L, x.val = e.ptr ∧ sumU l L s = e.H.cnt + sumU l L (s.push x.born)
  | [], _, _, _, _, _, hx, _ => by cases hx
  | y :: l, [], _, _, h, _, _, _ => by cases h
  | y :: l, e :: L, s, x, h, hn, hx, hs => by
    simp only [List.map_cons, List.cons.injEq, List.nodup_cons] at h hn
    rcases List.mem_cons.1 hx with rfl | hx
    · refine ⟨e, List.mem_cons_self .., h.1, ?_⟩
      simp only [sumU, hs, sumU_push_other l L s x.born hn.1]
      simp
    · obtain ⟨f, hf, h1, h2⟩ := sumU_step l L s x h.2 hn.2 hx hs
      refine ⟨f, List.mem_cons_of_mem _ hf, h1, ?_⟩
      have hne : x.born ≠ y.born := fun q => hn.1 (by rw [← q]; exact List.mem_map.2 ⟨x, hx, rfl⟩)
      have : (s.push x.born).contains y.born = s.contains y.born := by
        rw [Bool.eq_iff_iff]
        simp only [Array.contains_iff_mem, Array.mem_push]
        exact ⟨fun q => q.resolve_right (fun r => hne r.symm), .inl⟩
      simp only [sumU, this, h2]
      omega
theorem sumU_done : ∀ (l : List MapEntry) (L : List En) (s : Array Nat), (∀ x ∈ l, s.contains x.born = true) → sumU l L s = 0
  | [], L, s, _ => by cases L <;> rfl
  | x :: l, [], s, _ => rfl
  | x :: l, e :: L, s, h => by
    simp only [sumU, h x (List.mem_cons_self ..), if_true, Int.zero_add]
    exact sumU_done l L s (fun y hy => h y (List.mem_cons_of_mem _ hy))
def sumC (L : List En) : Int := (L.map fun e => e.H.cnt).foldr (· + ·) 0
theorem sumU_start : ∀ (l : List MapEntry) (L : List En), l.length = L.length → sumU l L #[] = sumC L
  | [], [], _ => rfl
  | [], _ :: _, h => by simp at h
  | _ :: _, [], h => by simp at h
  | x :: l, e :: L, h => by
    simp only [List.length_cons, Nat.add_right_cancel_iff] at h
    simp [sumU, sumC, sumU_start l L h]
theorem sumU_bound : ∀ (l : List MapEntry) (L : List En) (s : Array Nat), (∀ e ∈ L, 0 ≤ e.H.cnt ∧ e.H.cnt ≤ 4000) → 0 ≤ sumU l L s ∧ sumU l L s ≤ sumC L
  | [], [], s, _ => ⟨Int.le_refl _, Int.le_refl _⟩
  | [], e :: L, s, h => by
    have := sumU_bound [] L s (fun e he => h e (List.mem_cons_of_mem _ he))
    have h0 : sumU [] L s = 0 := by cases L <;> rfl
    have := h e (List.mem_cons_self ..)
    simp [sumU, sumC] at *; omega
  | _ :: _, [], s, _ => ⟨Int.le_refl _, Int.le_refl _⟩
  | x :: l, e :: L, s, h => by
    have := sumU_bound l L s (fun e he => h e (List.mem_cons_of_mem _ he))
    have := h e (List.mem_cons_self ..)
    simp only [sumU, sumC, List.map_cons, List.foldr_cons] at *
    split <;> omega
theorem sumC_bound : ∀ (L : List En), (∀ e ∈ L, 0 ≤ e.H.cnt ∧ e.H.cnt ≤ 4000) → 0 ≤ sumC L ∧ sumC L ≤ 4000 * (L.length : Int)
  | [], _ => ⟨Int.le_refl _, Int.le_refl _⟩
  | e :: L, h => by
    have := sumC_bound L (fun e he => h e (List.mem_cons_of_mem _ he))
    have := h e (List.mem_cons_self ..)
    simp only [sumC, List.map_cons, List.foldr_cons, List.length_cons] at *
    omega
def leftAt (es : Array MapEntry) (W : World) (r : Nat) : Nat := match W.heap[r]? with | some (.mapIter _ _ seen _) => (leftOf es seen).size | _ => 0
theorem leftAt_of {es : Array MapEntry} {W : World} {r : Nat} {a : Option Nat} {s : Nat} {seen : Array Nat} {c : Nat} (h : W.heap[r]? = some (.mapIter a s seen c)) : leftAt es W r = (leftOf es seen).size := by unfold leftAt; rw [h]
end Go.Proofs.YtmgjcjacoegocaaGreatDoor.Re

namespace Go.Proofs.YtmgjcjacoegocaaGreatDoor.Re
set_option maxRecDepth 100000
open Go.RowKit Go.Proofs.YtmgjcjacoegocaaGreatDoor.Wire
open Go.Proofs.YtmgjcjacoegocaaGreatDoor.Ip (Pk vlenB)

def sumA (A : List (Ky × Hf)) : Int := (A.map fun x => x.2.cnt).foldr (· + ·) 0
theorem sumC_abs (L : List En) : sumC L = sumA (abs L) := by unfold sumC sumA abs; rw [List.map_map]; rfl
def NewTT (w : World) (x : Ending) (w' : World) : Prop := ∃ T S, x = .returned (.pointer (some ⟨T, 0, none⟩)) ∧ TT w' T [] S ∧ Below w.heap.size w w' ∧ ∀ q, S q → w.heap.size ≤ q
theorem new_tt (w : World) : Calls Tryz.prog 11 #[] w (NewTT w) := by
  refine (new_tab w).mono ?_
  rintro x w' ⟨T, m, clk, rfl, h1, h2, h3, h4⟩
  refine ⟨T, fun q => TOwn T m none [] q, rfl, ⟨⟨m, #[], clk, none, 0, [], h1, fun e he => by simp at he, rfl, fun q hq => hq⟩, fun q hq => h1.lt hq, fun x hx => by simp at hx⟩, h2, ?_⟩
  rintro q (r | r | ⟨a, r, -⟩ | ⟨e, r, -⟩)
  · omega
  · omega
  · cases r
  · simp at r
/-- what put says -/
def putS (r : List (Ky × Hf) × Pk × Bool × Int) : ByteArray := if r.2.2.2 ≠ 0 then ⟨#[33]⟩ else if r.2.2.1 = true then r.2.1.s else ⟨#[45]⟩
def PutSW (S : Nat → Prop) (w : World) (T : Nat) (r : List (Ky × Hf) × Pk × Bool × Int) (x : Ending) (w' : World) : Prop :=
  x = .returned (.string (putS r)) ∧ ∃ S' : Nat → Prop, TT w' T r.1 S' ∧ Chg S w w' ∧ ∀ q, S' q → S q ∨ w.heap.size ≤ q
end Go.Proofs.YtmgjcjacoegocaaGreatDoor.Re

namespace Go.Proofs.YtmgjcjacoegocaaGreatDoor.Re
set_option maxRecDepth 100000
open Go.RowKit Go.Proofs.YtmgjcjacoegocaaGreatDoor.Wire
open Go.Proofs.YtmgjcjacoegocaaGreatDoor.Ip (Pk vlenB VLen)

structure OneT (w : World) (T : Nat) (A : List (Ky × Hf)) (K : Nat → Prop) (W : World) : Prop where
  ex : ∃ S : Nat → Prop, TT W T A S ∧ ∀ q, S q → w.heap.size ≤ q ∧ ¬ K q
  bel : Below w.heap.size w W
section
variable {w W W' : World} {T : Nat} {A : List (Ky × Hf)} {K : Nat → Prop}
theorem OneT.below (h : OneT w T A K W) (hb : Below W.heap.size W W') : OneT w T A K W' := by
  obtain ⟨S, h1, h2⟩ := h.ex
  exact ⟨⟨S, h1.below hb, h2⟩, below_call h.bel hb⟩
/-- blocks that are not there yet are none of the table's -/
theorem OneT.more (h : OneT w T A K W) {K' : Nat → Prop} (hk : ∀ q, K' q → K q ∨ W.heap.size ≤ q) : OneT w T A K' W := by
  obtain ⟨S, h1, h2⟩ := h.ex
  refine ⟨⟨S, h1, fun q hq => ⟨(h2 q hq).1, fun r => ?_⟩⟩, h.bel⟩
  rcases hk q r with s | s
  · exact (h2 q hq).2 s
  · have := h1.lt q hq; omega
/-- a call that changes blocks of K alone -/
theorem OneT.grown (h : OneT w T A K W) {row : Option Nat} (hg : W.grownBy W' row) (hr : ∀ k, row = some k → K k ∧ w.heap.size ≤ k) : OneT w T A K W' := by
  obtain ⟨S, h1, h2⟩ := h.ex
  have hz := h.bel.size
  refine ⟨⟨S, h1.kept hg.size (fun q hq => hg.block q (h1.lt q hq) (fun e => (h2 q hq).2 (hr q e.symm).1)), h2⟩, ?_⟩
  exact ⟨hg.os.trans h.bel.os, hg.tape.trans h.bel.tape, hg.output.trans h.bel.output, Nat.le_trans hz hg.size, fun k hk => (hg.block k (by omega) (fun e => by have := (hr k e.symm).2; omega)).trans (h.bel.block k hk)⟩
theorem OneT.setCell (h : OneT w T A K W) {p : Addr} (hp : K p.block ∧ w.heap.size ≤ p.block) (u : Value) : OneT w T A K (W.setCell p u) :=
  h.grown (only_set (World.grownBy.refl W (some p.block)) (.inl rfl) u) (fun k e => by cases e; exact hp)
theorem OneT.put (h : OneT w T A K W) (now : Int) (p : Pk) (A' : List (Ky × Hf)) (q : Pk) (ok : Bool) (err : Int) (he : putA A now p = (A', q, ok, err)) (hs : p.s.size ≤ 9223372036854775807) (hL : A.length < 8 ∨ keyOf p ∈ A.map (·.1)) (hl9 : A.length ≤ 900) (hnow : In64 now) :
    Calls Tryz.prog 12 #[.pointer (some ⟨T, 0, none⟩), .int .i64 now, .agg #[.int .i64 p.f, .int .i64 p.t, .int .i64 p.pr, .int .i64 p.ttl, .int .i64 p.id, .bool p.df, .bool p.mf, .int .i64 p.off, .string p.s]] W fun x w' => x = PutRes q ok err ∧ OneT w T A' (fun k => K k ∧ k < W.heap.size) w' ∧ W.heap.size ≤ w'.heap.size ∧ ∀ k, K k → k < W.heap.size → w'.heap[k]? = W.heap[k]? := by
  obtain ⟨S, h1, h2⟩ := h.ex
  refine (put_any T A S now p W h1 hs hL hl9 hnow).mono ?_
  rintro x w' ⟨hx, S', t', hc, hn⟩
  rw [he] at hx t'
  have hz := h.bel.size
  refine ⟨hx, ⟨⟨S', t', fun q hq => ?_⟩, ?_⟩, hc.size, fun k hk1 hk2 => hc.block k hk2 (fun r => (h2 k r).2 hk1)⟩
  · rcases hn q hq with r | r
    · exact ⟨(h2 q r).1, fun s => (h2 q r).2 s.1⟩
    · exact ⟨by omega, fun s => by omega⟩
  · exact ⟨hc.os.trans h.bel.os, hc.tape.trans h.bel.tape, hc.output.trans h.bel.output, Nat.le_trans hz hc.size, fun k hk => (hc.block k (by omega) (fun r => by have := (h2 k r).1; omega)).trans (h.bel.block k hk)⟩
theorem OneT.ofNew {x : Ending} (hb : Below w.heap.size w W) (h : NewTT W x W') : ∃ T, x = .returned (.pointer (some ⟨T, 0, none⟩)) ∧ OneT w T [] (fun q => q < W.heap.size) W' ∧ Below W.heap.size W W' := by
  obtain ⟨T, S, rfl, h1, h2, h3⟩ := h
  exact ⟨T, rfl, ⟨⟨S, h1, fun q hq => ⟨by have := h3 q hq; have := hb.size; omega, fun r => by have := h3 q hq; omega⟩⟩, below_call hb h2⟩, h2⟩
end
end Go.Proofs.YtmgjcjacoegocaaGreatDoor.Re

namespace Go.Proofs.YtmgjcjacoegocaaGreatDoor.Re
set_option maxRecDepth 100000
open Go.RowKit Go.Proofs.YtmgjcjacoegocaaGreatDoor.Wire
open Go.Proofs.YtmgjcjacoegocaaGreatDoor.Ip (Pk vlenB VLen pieceAt count frags count_lt)

/-- what bytes laid from o on make of a datagram -/
theorem layN_at (s : ByteArray) (o : Nat) (H : Hf) (hl : H.hv.length = H.by_.length) : ∀ z, o + z ≤ H.by_.length →
    (∀ j, (layN s o H z).hv[j]? = if o ≤ j ∧ j < o + z then some true else H.hv[j]?) ∧
    (∀ j, (layN s o H z).by_[j]? = if o ≤ j ∧ j < o + z ∧ H.hv[j]? = some false then some (s.data.toList.getD (j - o) 0) else H.by_[j]?)
  | 0, _ => ⟨fun j => by rw [if_neg (by omega)]; rfl, fun j => by rw [if_neg (by omega)]; rfl⟩
  | z + 1, hz => by
    obtain ⟨i1, i2⟩ := layN_at s o H hl z (by omega)
    obtain ⟨l1, l2⟩ := layN_len s o H z
    have e : layN s o H (z + 1) = laySet (layN s o H z) (o + z) (s.data.toList.getD z 0) := rfl
    rw [e]
    have hoz : (layN s o H z).hv[o + z]? = H.hv[o + z]? := by rw [i1, if_neg (by omega)]
    have hex : H.hv[o + z]? = some (H.hv[o + z]'(by omega)) := List.getElem?_eq_getElem _
    cases hb : H.hv[o + z]'(by omega) with
    | true =>
      rw [hb] at hex
      rw [laySet_there (hoz.trans hex)]
      refine ⟨fun j => ?_, fun j => ?_⟩
      · rw [i1]
        by_cases h1 : o ≤ j ∧ j < o + z
        · rw [if_pos h1, if_pos (by omega)]
        · rw [if_neg h1]
          by_cases h2 : j = o + z
          · subst h2; rw [hex, if_pos (by omega)]
          · rw [if_neg (by omega)]
      · rw [i2]
        by_cases h1 : o ≤ j ∧ j < o + z ∧ H.hv[j]? = some false
        · rw [if_pos h1, if_pos ⟨h1.1, by omega, h1.2.2⟩]
        · rw [if_neg h1]
          by_cases h2 : j = o + z
          · subst h2; rw [if_neg (by rw [hex]; simp)]
          · rw [if_neg (fun q => h1 ⟨q.1, by omega, q.2.2⟩)]
    | false =>
      rw [hb] at hex
      rw [laySet_new (hoz.trans hex)]
      refine ⟨fun j => ?_, fun j => ?_⟩
      · show ((layN s o H z).hv.set (o + z) true)[j]? = _
        rw [List.getElem?_set]
        by_cases h2 : o + z = j
        · subst h2
          rw [if_pos rfl, if_pos (by omega), if_pos (by omega)]
        · rw [if_neg h2, i1]
          by_cases h1 : o ≤ j ∧ j < o + z
          · rw [if_pos h1, if_pos (by omega)]
          · rw [if_neg h1, if_neg (by omega)]
      · show ((layN s o H z).by_.set (o + z) _)[j]? = _
        rw [List.getElem?_set]
        by_cases h2 : o + z = j
        · subst h2
          rw [if_pos rfl, if_pos (by omega), if_pos ⟨by omega, by omega, hex⟩, Nat.add_sub_cancel_left]
        · rw [if_neg h2, i2]
          by_cases h1 : o ≤ j ∧ j < o + z ∧ H.hv[j]? = some false
          · rw [if_pos h1, if_pos ⟨h1.1, by omega, h1.2.2⟩]
          · rw [if_neg h1, if_neg (fun q => h1 ⟨q.1, by omega, q.2.2⟩)]
/-- the fragments of p that are in C have come -/
structure Good (p : Pk) (n : Nat) (C : Nat → Bool) (H : Hf) : Prop where
  inv : HInv H
  rej : H.rej = false
  le : H.by_.length ≤ p.s.size
  hv : ∀ j, j < H.by_.length → H.hv[j]? = some (C (j / n))
  by_ : ∀ j, j < H.by_.length → C (j / n) = true → H.by_[j]? = p.s.data.toList[j]?
  top : ∀ j, H.by_.length ≤ j → j < p.s.size → C (j / n) = false
  ended : H.ended = C (count p n - 1)
  en : H.ended = true → H.en = p.s.size
  started : H.started = C 0
  first : H.started = true → H.first.ttl = p.ttl
/-- a datagram that is cut into at least two -/
structure CutP (p : Pk) (n : Nat) : Prop where
  n0 : 0 < n
  off : p.off = 0
  mf : p.mf = false
  two : n < p.s.size
  le : p.s.size ≤ 4000
section
variable {p : Pk} {n : Nat} {C : Nat → Bool} {H : Hf}
theorem CutP.m2 (h : CutP p n) : 2 ≤ count p n := by
  have := (count_lt p n 1 h.n0).2 (by have := h.two; omega)
  omega
theorem good_new {p : Pk} {n : Nat} (now : Int) : Good p n (fun _ => false) (newF now) :=
  ⟨hinv_new now, rfl, Nat.zero_le _, fun j hj => by simp [newF] at hj, fun j hj => by simp [newF] at hj, fun _ _ _ => rfl, rfl, fun q => (by cases q), rfl, fun q => (by cases q)⟩
/-- byte j is of piece k -/
theorem in_piece (h : CutP p n) {k j : Nat} (hk : k < count p n) (hj : j < p.s.size) : (n * k ≤ j ∧ j < n * k + (min (n * k + n) p.s.size - n * k)) ↔ j / n = k := by
  have h1 := (count_lt p n k h.n0).1 hk
  have hn := h.n0
  constructor
  · rintro ⟨a, b⟩
    have h2 : j < n * k + n := by omega
    have h3 : k ≤ j / n := (Nat.le_div_iff_mul_le hn).2 (by rw [Nat.mul_comm]; exact a)
    have h4 : j / n < k + 1 := (Nat.div_lt_iff_lt_mul hn).2 (by rw [Nat.mul_comm, Nat.mul_add]; omega)
    omega
  · rintro rfl
    have h2 : n * (j / n) ≤ j := Nat.mul_div_le j n
    have h3 : j < n * (j / n) + n := Nat.lt_mul_div_succ j hn
    omega
theorem piece_off (h : CutP p n) (k : Nat) : (pieceAt p n k).off = ((n * k : Nat) : Int) := by
  unfold pieceAt; dsimp only; rw [h.off]; omega
theorem piece_sz {p : Pk} {n : Nat} (k : Nat) : (pieceAt p n k).s.size = min (n * k + n) p.s.size - n * k := by
  unfold pieceAt
  dsimp only
  rw [ByteArray.size_extract]
  omega
theorem piece_mf (h : CutP p n) {k : Nat} (hk : k < count p n) : (pieceAt p n k).mf = decide (k ≠ count p n - 1) := by
  unfold pieceAt
  dsimp only
  rw [h.mf, Bool.false_or]
  have h1 := count_lt p n (k + 1) h.n0
  rw [Nat.mul_add, Nat.mul_one] at h1
  exact decide_eq_decide.2 ⟨fun q => by have := h1.2 q; omega, fun q => h1.1 (by omega)⟩
theorem piece_byte {p : Pk} {n : Nat} (k i : Nat) (hi : n * k + i < min (n * k + n) p.s.size) : (pieceAt p n k).s.data.toList.getD i 0 = p.s.data.toList.getD (n * k + i) 0 := by
  have hb : (pieceAt p n k).s.data.toList = (p.s.data.toList.take (min (n * k + n) p.s.size)).drop (n * k) := by
    unfold pieceAt
    dsimp only
    rw [ByteArray.data_extract]
    simp [List.drop_take]
  rw [hb, List.getD_eq_getElem?_getD, List.getD_eq_getElem?_getD, List.getElem?_drop, List.getElem?_take, if_pos hi]
/-- a fragment of p does not conflict -/
theorem good_confl (h : CutP p n) (g : Good p n C H) {k : Nat} (hk : k < count p n) : conflB H (pieceAt p n k) = false := by
  have hsz := piece_sz (p := p) (n := n) k
  have hof := piece_off h k
  have h1 := (count_lt p n k h.n0).1 hk
  have htn : (pieceAt p n k).off.toNat = n * k := by rw [hof]; omega
  have hd : diffAny H (pieceAt p n k) (pieceAt p n k).s.size = false := by
    unfold diffAny
    rw [List.any_eq_false]
    intro i hi
    have hi := List.mem_range.1 hi
    rw [htn]
    unfold differsB
    rw [htn, Nat.add_sub_cancel_left]
    rw [hsz] at hi
    rw [piece_byte k i (by omega)]
    rcases Nat.lt_or_ge (n * k + i) H.by_.length with hl | hl
    · have e1 := g.hv _ hl
      cases hc : C ((n * k + i) / n) with
      | false => rw [hc] at e1; simp [List.getD_eq_getElem?_getD, e1]
      | true =>
        have e2 := g.by_ _ hl hc
        simp only [List.getD_eq_getElem?_getD, e2]
        simp
    · have : H.hv[n * k + i]? = none := List.getElem?_eq_none (by rw [g.inv.len]; exact hl)
      simp [List.getD_eq_getElem?_getD, this]
  unfold conflB
  rw [hd, hsz, hof]
  have hle : n * k + (min (n * k + n) p.s.size - n * k) ≤ p.s.size := by omega
  have a1 : (H.ended && decide (H.en < ((n * k : Nat) : Int) + ((min (n * k + n) p.s.size - n * k : Nat) : Int))) = false := by
    cases he : H.ended with
    | false => rfl
    | true => rw [g.en he, Bool.true_and]; exact decide_eq_false (by omega)
  rw [a1, piece_mf h hk]
  by_cases hm : k = count p n - 1
  · have hlast : n * k + (min (n * k + n) p.s.size - n * k) = p.s.size := by
      have := (not_congr (count_lt p n (k + 1) h.n0)).1 (by omega)
      rw [Nat.mul_add, Nat.mul_one] at this
      omega
    have a2 : decide (((n * k : Nat) : Int) + ((min (n * k + n) p.s.size - n * k : Nat) : Int) < (H.by_.length : Int)) = false := decide_eq_false (by have := g.le; omega)
    have a3 : (H.ended && decide (((n * k : Nat) : Int) + ((min (n * k + n) p.s.size - n * k : Nat) : Int) ≠ H.en)) = false := by
      cases he : H.ended with
      | false => rfl
      | true => rw [g.en he, Bool.true_and]; exact decide_eq_false (by omega)
    rw [a2, a3]; simp
  · rw [decide_eq_true hm]; simp
/-- and it is stored -/
theorem good_store (h : CutP p n) (g : Good p n C H) {k : Nat} (hk : k < count p n) : Good p n (fun i => C i || decide (i = k)) (storeF H (pieceAt p n k)) := by
  have hsz := piece_sz (p := p) (n := n) k
  have hof := piece_off h k
  have h1 := (count_lt p n k h.n0).1 hk
  have hn := h.n0
  have htn : (pieceAt p n k).off.toNat = n * k := by rw [hof]; omega
  have hz0 : 0 < min (n * k + n) p.s.size - n * k := by omega
  have hinv := hinv_store g.inv (pieceAt p n k) (by rw [hof]; omega) (by rw [hof, hsz]; have := h.le; omega)
  have hmf := piece_mf h hk
  have hpt : (pieceAt p n k).ttl = p.ttl := rfl
  obtain ⟨q, hq⟩ : ∃ q, pieceAt p n k = q := ⟨_, rfl⟩
  have hby : ∀ i, n * k + i < min (n * k + n) p.s.size → q.s.data.toList.getD i 0 = p.s.data.toList.getD (n * k + i) 0 := fun i hi => by rw [← hq]; exact piece_byte k i hi
  rw [hq] at hsz hof htn hinv hmf hpt ⊢
  -- the parts of the store
  obtain ⟨G, hG⟩ : ∃ G, growF H (q.off.toNat + q.s.size) = G := ⟨_, rfl⟩
  have gl : G.by_.length = max H.by_.length (n * k + q.s.size) := by rw [← hG, htn]; simp [growF]; omega
  have gh : G.hv.length = G.by_.length := by rw [← hG]; simp [growF, g.inv.len]
  have gv : ∀ j, j < H.by_.length → G.hv[j]? = H.hv[j]? ∧ G.by_[j]? = H.by_[j]? := fun j hj => by
    rw [← hG]
    exact ⟨List.getElem?_append_left (by rw [g.inv.len]; exact hj), List.getElem?_append_left hj⟩
  have gn : ∀ j, H.by_.length ≤ j → j < G.by_.length → G.hv[j]? = some false := fun j hj hj2 => by
    rw [← hG] at hj2 ⊢
    show (H.hv ++ _)[j]? = _
    rw [List.getElem?_append_right (by rw [g.inv.len]; exact hj), List.getElem?_replicate]
    rw [if_pos]
    simp [growF] at hj2
    rw [g.inv.len]; omega
  have lay := layN_at q.s (n * k) G gh q.s.size (by rw [gl]; omega)
  have lst := layN_start q.s (n * k) G q.s.size
  have lln := layN_len q.s (n * k) G q.s.size
  obtain ⟨Y, hY⟩ : ∃ Y, layN q.s (n * k) G q.s.size = Y := ⟨_, rfl⟩
  rw [hY] at lay lst lln
  have gs : G.started = H.started ∧ G.first = H.first ∧ G.rej = H.rej ∧ G.ended = H.ended ∧ G.en = H.en := by rw [← hG]; exact ⟨rfl, rfl, rfl, rfl, rfl⟩
  have hst : storeF H q = firstF (endF Y q) q := by unfold storeF; rw [hG, htn, hY]
  have same : (storeF H q).by_ = Y.by_ ∧ (storeF H q).hv = Y.hv ∧ (storeF H q).rej = Y.rej := by
    rw [hst]
    unfold firstF endF
    split <;> split <;> exact ⟨rfl, rfl, rfl⟩
  have hend : (storeF H q).ended = (H.ended || !q.mf) ∧ ((storeF H q).ended = true → (storeF H q).en = p.s.size) := by
    have e0 : (storeF H q).ended = (endF Y q).ended ∧ (storeF H q).en = (endF Y q).en := by
      rw [hst]
      unfold firstF
      split <;> exact ⟨rfl, rfl⟩
    rw [e0.1, e0.2]
    unfold endF
    cases hm : q.mf with
    | true =>
      rw [if_pos rfl]
      rw [lst.2.2.2.2.1, gs.2.2.2.1, lst.2.2.2.2.2, gs.2.2.2.2]
      exact ⟨by simp, fun he => g.en he⟩
    | false =>
      rw [if_neg (by simp)]
      refine ⟨by simp, fun _ => ?_⟩
      show q.off + (q.s.size : Int) = _
      rw [hm] at hmf
      have hk' : k = count p n - 1 := by
        rcases Decidable.em (k = count p n - 1) with e | e
        · exact e
        · rw [decide_eq_true e] at hmf; cases hmf
      have := (not_congr (count_lt p n (k + 1) h.n0)).1 (by omega)
      rw [Nat.mul_add, Nat.mul_one] at this
      rw [hof, hsz]; omega
  have hfst : (storeF H q).started = (H.started || decide (k = 0)) ∧ ((storeF H q).started = true → (storeF H q).first.ttl = p.ttl) := by
    have e0 : (endF Y q).started = H.started ∧ (endF Y q).first = H.first := by
      unfold endF
      split
      · exact ⟨lst.2.1.trans gs.1, lst.2.2.1.trans gs.2.1⟩
      · exact ⟨lst.2.1.trans gs.1, lst.2.2.1.trans gs.2.1⟩
    rw [hst]
    unfold firstF
    have ez : q.off = 0 ↔ k = 0 := by
      rw [hof]
      constructor
      · intro e
        rcases Nat.eq_zero_or_pos k with r | r
        · exact r
        · have := Nat.mul_pos hn r; omega
      · rintro rfl; simp
    by_cases hc : q.off = 0 ∧ (endF Y q).started = false
    · rw [if_pos hc]
      exact ⟨by show true = _; rw [decide_eq_true (ez.1 hc.1)]; simp, fun _ => hpt⟩
    · rw [if_neg hc, e0.1, e0.2]
      refine ⟨?_, fun he => g.first he⟩
      cases hs : H.started with
      | true => rfl
      | false =>
        rw [Bool.false_or, eq_comm]
        exact decide_eq_false (fun e => hc ⟨ez.2 e, by rw [e0.1, hs]⟩)
  have lenY : Y.by_.length = max H.by_.length (n * k + q.s.size) := lln.1.trans gl
  have inp := fun j (hj : j < p.s.size) => in_piece h hk hj
  rw [← hsz] at inp
  refine ⟨hinv, by rw [same.2.2, lst.2.2.2.1, gs.2.2.1]; exact g.rej, ?_, ?_, ?_, ?_, ?_, hend.2, ?_, hfst.2⟩
  · rw [same.1, lenY]; have := g.le; omega
  · intro j hj
    rw [same.1, lenY] at hj
    rw [same.2.1, lay.1]
    have hjs : j < p.s.size := by have := g.le; omega
    by_cases hin : n * k ≤ j ∧ j < n * k + q.s.size
    · rw [if_pos hin, (inp j hjs).1 hin]; simp
    · rw [if_neg hin]
      have hne : j / n ≠ k := fun e => hin ((inp j hjs).2 e)
      rw [decide_eq_false hne, Bool.or_false]
      rcases Nat.lt_or_ge j H.by_.length with hl | hl
      · rw [(gv j hl).1]; exact g.hv j hl
      · rw [gn j hl (by rw [gl]; exact hj), g.top j hl hjs]
  · intro j hj hc
    rw [same.1, lenY] at hj
    rw [same.1, lay.2]
    have hjs : j < p.s.size := by have := g.le; omega
    have hget : p.s.data.toList[j]? = some (p.s.data.toList.getD j 0) := by
      have hl : j < p.s.data.toList.length := hjs
      rw [List.getD_eq_getElem?_getD, List.getElem?_eq_getElem hl]; rfl
    by_cases hin : n * k ≤ j ∧ j < n * k + q.s.size ∧ G.hv[j]? = some false
    · rw [if_pos hin, hby (j - n * k) (by omega), hget]
      congr 2; omega
    · rw [if_neg hin]
      rcases Nat.lt_or_ge j H.by_.length with hl | hl
      · rw [(gv j hl).2]
        refine g.by_ j hl ?_
        cases hcj : C (j / n) with
        | true => rfl
        | false =>
          rw [hcj, Bool.false_or] at hc
          have e := of_decide_eq_true hc
          exfalso
          have := (inp j hjs).2 e
          exact hin ⟨this.1, this.2, by rw [(gv j hl).1, g.hv j hl, hcj]⟩
      · exfalso
        rw [g.top j hl hjs, Bool.false_or] at hc
        have := (inp j hjs).2 (of_decide_eq_true hc)
        exact hin ⟨this.1, this.2, gn j hl (by rw [gl]; exact hj)⟩
  · intro j hj hjs
    rw [same.1, lenY] at hj
    rw [g.top j (by omega) hjs, Bool.false_or]
    exact decide_eq_false (fun e => by have := (inp j hjs).2 e; omega)
  · rw [hend.1, g.ended, hmf]
    by_cases e : k = count p n - 1
    · rw [decide_eq_false (fun q => q e), decide_eq_true e.symm]; rfl
    · rw [decide_eq_true e, decide_eq_false (fun q => e q.symm)]; rfl
  · rw [hfst.1, g.started]
    congr 1
    exact decide_eq_decide.2 eq_comm
theorem good_whole (h : CutP p n) (g : Good p n C H) : wholeB H = true ↔ ∀ i, i < count p n → C i = true := by
  have hm := h.m2
  have hn := h.n0
  have hlc : H.hv.count true ≤ H.hv.length := List.count_le_length
  unfold wholeB
  rw [Bool.and_eq_true, decide_eq_true_eq]
  constructor
  · rintro ⟨he, hc⟩ i hi
    rw [g.en he, g.inv.cnt] at hc
    have h2 : H.hv.count true = H.hv.length := by have := g.le; have := g.inv.len; omega
    have h3 : H.by_.length = p.s.size := by have := g.le; have := g.inv.len; omega
    have hall := List.count_eq_length.1 h2
    have hi2 := (count_lt p n i hn).1 hi
    have e1 := g.hv (n * i) (by omega)
    have e2 := hall _ (List.mem_of_getElem? e1)
    rw [Nat.mul_div_cancel_left i hn] at e2
    exact e2.symm
  · intro hc
    have he : H.ended = true := by rw [g.ended]; exact hc _ (by omega)
    refine ⟨he, ?_⟩
    have h3 : H.by_.length = p.s.size := by
      rcases Nat.lt_or_ge H.by_.length p.s.size with q | q
      · have := g.top _ (Nat.le_refl _) q
        rw [hc _ ((count_lt p n _ hn).2 (Nat.lt_of_le_of_lt (Nat.mul_div_le _ n) q))] at this
        cases this
      · have := g.le; omega
    rw [g.en he, g.inv.cnt]
    have : H.hv.count true = H.hv.length := by
      rw [List.count_eq_length]
      intro b hb
      obtain ⟨j, hj⟩ := List.getElem?_of_mem hb
      have hjl : j < H.by_.length := by have := (List.getElem?_eq_some_iff.1 hj).1; have := g.inv.len; omega
      have e1 := g.hv j hjl
      rw [hj] at e1
      have e2 := Option.some.inj e1
      rw [e2, hc _ ((count_lt p n _ hn).2 (Nat.lt_of_le_of_lt (Nat.mul_div_le _ n) (by omega)))]
    rw [this, g.inv.len, h3]
theorem good_bytes (h : CutP p n) (g : Good p n C H) (hc : ∀ i, i < count p n → C i = true) : H.by_ = p.s.data.toList ∧ H.first.ttl = p.ttl := by
  have hn := h.n0
  have hm := h.m2
  have h3 : H.by_.length = p.s.size := by
    rcases Nat.lt_or_ge H.by_.length p.s.size with q | q
    · have := g.top _ (Nat.le_refl _) q
      rw [hc _ ((count_lt p n _ hn).2 (Nat.lt_of_le_of_lt (Nat.mul_div_le _ n) q))] at this
      cases this
    · have := g.le; omega
  refine ⟨?_, g.first (by rw [g.started]; exact hc 0 (by omega))⟩
  apply List.ext_getElem?
  intro j
  rcases Nat.lt_or_ge j H.by_.length with q | q
  · exact g.by_ j q (hc _ ((count_lt p n _ hn).2 (Nat.lt_of_le_of_lt (Nat.mul_div_le _ n) (by omega))))
  · rw [List.getElem?_eq_none q, List.getElem?_eq_none (by show p.s.size ≤ j; omega)]
theorem good_congr {C' : Nat → Bool} (g : Good p n C H) (hn : 0 < n) (hm : 0 < count p n) (hc : ∀ i, i < count p n → C' i = C i) : Good p n C' H := by
  have hd : ∀ j, j < p.s.size → C' (j / n) = C (j / n) := fun j hj => hc _ ((count_lt p n _ hn).2 (Nat.lt_of_le_of_lt (Nat.mul_div_le _ n) hj))
  exact ⟨g.inv, g.rej, g.le, fun j hj => by rw [hd j (by have := g.le; omega)]; exact g.hv j hj, fun j hj q => g.by_ j hj (by rw [← hd j (by have := g.le; omega)]; exact q),
    fun j hj q => by rw [hd j q]; exact g.top j hj q, by rw [hc _ (by omega)]; exact g.ended, g.en, by rw [hc _ (by omega)]; exact g.started, g.first⟩
end
end Go.Proofs.YtmgjcjacoegocaaGreatDoor.Re

namespace Go.Proofs.YtmgjcjacoegocaaGreatDoor.Re
set_option maxRecDepth 100000
open Go.RowKit Go.Proofs.YtmgjcjacoegocaaGreatDoor.Wire
open Go.Proofs.YtmgjcjacoegocaaGreatDoor.Ip (Pk vlenB VLen pieceAt count frags count_lt)

def look (A : List (Ky × Hf)) (k : Ky) : Option Hf := (A.find? fun x => decide (k = x.1)).map (·.2)
def NK (A : List (Ky × Hf)) : Prop := (A.map (·.1)).Nodup
theorem look_nil (k : Ky) : look [] k = none := rfl
theorem look_cons (x : Ky × Hf) (A : List (Ky × Hf)) (k : Ky) : look (x :: A) k = if k = x.1 then some x.2 else look A k := by
  unfold look
  rw [List.find?_cons]
  by_cases h : k = x.1
  · rw [decide_eq_true h, if_pos h]; rfl
  · rw [decide_eq_false h, if_neg h]
theorem lk_none {A : List (Ky × Hf)} {k : Ky} : look A k = none ↔ ∀ x ∈ A, x.1 ≠ k := by
  unfold look
  rw [Option.map_eq_none_iff, List.find?_eq_none]
  constructor
  · intro h x hx e; exact h x hx (decide_eq_true e.symm)
  · intro h x hx e; exact h x hx (of_decide_eq_true e).symm
theorem lk_some {A : List (Ky × Hf)} (hn : NK A) {k : Ky} {H : Hf} : look A k = some H ↔ ∃ i, A[i]? = some (k, H) ∧ hasK A k = some i := by
  unfold look
  constructor
  · intro h
    obtain ⟨x, hx, rfl⟩ := Option.map_eq_some_iff.1 h
    have hk : k = x.1 := by have := List.find?_some hx; exact of_decide_eq_true this
    obtain ⟨i, hi⟩ := List.getElem?_of_mem (List.mem_of_find?_eq_some hx)
    refine ⟨i, by rw [hi, hk], ?_⟩
    unfold hasK
    exact at_some hn (by rw [List.getElem?_map, hi, hk]; rfl)
  · rintro ⟨i, hi, -⟩
    cases hf : A.find? fun x => decide (k = x.1) with
    | none => exact absurd (List.mem_of_getElem? hi) (fun q => by have := List.find?_eq_none.1 hf _ q; simp at this)
    | some x =>
      have hk : k = x.1 := by have := List.find?_some hf; exact of_decide_eq_true this
      obtain ⟨j, hj⟩ := List.getElem?_of_mem (List.mem_of_find?_eq_some hf)
      have e1 : (A.map (·.1))[i]? = some k := by rw [List.getElem?_map, hi]; rfl
      have e2 : (A.map (·.1))[j]? = some k := by rw [List.getElem?_map, hj]; simp [hk]
      obtain ⟨h1, h2⟩ := List.getElem?_eq_some_iff.1 e1
      obtain ⟨h3, h4⟩ := List.getElem?_eq_some_iff.1 e2
      have hij : i = j := by
        rcases Nat.lt_trichotomy i j with q | q | q
        · exact absurd (h2.trans h4.symm) ((List.pairwise_iff_getElem.1 hn) i j h1 h3 q)
        · exact q
        · exact absurd (h4.trans h2.symm) ((List.pairwise_iff_getElem.1 hn) j i h3 h1 q)
      subst hij
      rw [hi] at hj
      rw [← Option.some.inj hj]; rfl
theorem look_append {A : List (Ky × Hf)} {k : Ky} {H : Hf} (h : look A k = none) (k' : Ky) : look (A ++ [(k, H)]) k' = if k' = k then some H else look A k' := by
  induction A with
  | nil => rw [List.nil_append, look_cons]
  | cons x A ih =>
    rw [look_cons] at h
    split at h
    · cases h
    · rename_i hne
      rw [List.cons_append, look_cons, ih h, look_cons]
      by_cases e : k' = x.1
      · rw [if_pos e, if_neg (fun q => hne (q.symm.trans e)), if_pos e]
      · rw [if_neg e, if_neg e]
theorem look_set : ∀ {A : List (Ky × Hf)} {i : Nat} {k : Ky} {H0 H : Hf} (_ : A[i]? = some (k, H0)) (_ : NK A) (k' : Ky), look (A.set i (k, H)) k' = if k' = k then some H else look A k'
  | [], i, k, H0, H, h, _, k' => by simp at h
  | x :: A, 0, k, H0, H, h, _, k' => by
    simp at h; subst h
    rw [List.set_cons_zero, look_cons, look_cons]
    by_cases e : k' = k
    · rw [if_pos e, if_pos e]
    · rw [if_neg e, if_neg e, if_neg e]
  | x :: A, i + 1, k, H0, H, h, hn, k' => by
    have h' : A[i]? = some (k, H0) := by simpa using h
    have hn' : NK A := (List.nodup_cons.1 hn).2
    have hne : k ≠ x.1 := fun e => (List.nodup_cons.1 hn).1 (by
      have : k ∈ A.map (·.1) := List.mem_map.2 ⟨_, List.mem_of_getElem? h', rfl⟩
      rw [e] at this; exact this)
    rw [List.set_cons_succ, look_cons, look_set h' hn' k', look_cons]
    by_cases e : k' = x.1
    · rw [if_pos e, if_neg (fun q => hne (q.symm.trans e)), if_pos e]
    · rw [if_neg e, if_neg e]
theorem look_erase : ∀ {A : List (Ky × Hf)} {i : Nat} {k : Ky} {H0 : Hf} (_ : A[i]? = some (k, H0)) (_ : NK A) (k' : Ky), look (A.eraseIdx i) k' = if k' = k then none else look A k'
  | [], i, k, H0, h, _, k' => by simp at h
  | x :: A, 0, k, H0, h, hn, k' => by
    simp at h; subst h
    rw [List.eraseIdx_cons_zero, look_cons]
    by_cases e : k' = k
    · rw [if_pos e, lk_none]
      intro y hy q
      exact (List.nodup_cons.1 hn).1 (List.mem_map.2 ⟨y, hy, q.trans e⟩)
    · rw [if_neg e, if_neg e]
  | x :: A, i + 1, k, H0, h, hn, k' => by
    have h' : A[i]? = some (k, H0) := by simpa using h
    have hn' : NK A := (List.nodup_cons.1 hn).2
    have hne : k ≠ x.1 := fun e => (List.nodup_cons.1 hn).1 (by
      have : k ∈ A.map (·.1) := List.mem_map.2 ⟨_, List.mem_of_getElem? h', rfl⟩
      rw [e] at this; exact this)
    rw [List.eraseIdx_cons_succ, look_cons, look_erase h' hn' k', look_cons]
    by_cases e : k' = x.1
    · rw [if_pos e, if_neg (fun q => hne (q.symm.trans e)), if_pos e]
    · rw [if_neg e, if_neg e]
theorem nk_append {A : List (Ky × Hf)} (hn : NK A) {k : Ky} {H : Hf} (h : look A k = none) : NK (A ++ [(k, H)]) := by
  unfold NK
  rw [List.map_append, List.nodup_append]
  refine ⟨hn, by simp, fun a ha b hb => ?_⟩
  obtain ⟨x, hx, rfl⟩ := List.mem_map.1 ha
  simp at hb; subst hb
  exact lk_none.1 h x hx
theorem nk_set {A : List (Ky × Hf)} (hn : NK A) {i : Nat} {k : Ky} {H0 H : Hf} (h : A[i]? = some (k, H0)) : NK (A.set i (k, H)) := by
  unfold NK
  rw [List.map_set]
  obtain ⟨hl, e⟩ := List.getElem?_eq_some_iff.1 h
  have : (A.map (·.1))[i]'(by simpa using hl) = k := by simp [e]
  rw [show (k, H).1 = (A.map (·.1))[i]'(by simpa using hl) from this.symm, List.set_getElem_self]
  exact hn
theorem nk_erase {A : List (Ky × Hf)} (hn : NK A) (i : Nat) : NK (A.eraseIdx i) := by
  unfold NK
  exact hn.sublist ((List.eraseIdx_sublist A i).map _)
/-- the entry of a key, an old one or a new one: where it stands in the list that Put works on -/
theorem hasK_no {A : List (Ky × Hf)} {k : Ky} (h : ∀ x ∈ A, x.1 ≠ k) : hasK A k = none := by
  unfold hasK
  rw [List.findIdx?_eq_none_iff]
  intro y hy
  obtain ⟨x, hx, rfl⟩ := List.mem_map.1 hy
  exact decide_eq_false (fun q => h x hx q.symm)
theorem putA_at {A : List (Ky × Hf)} (hn : NK A) (now : Int) (p : Pk) (hv : vldB p = true) (hf : p.mf = true ∨ p.off ≠ 0) :
    ∃ A1 i, putA A now p = putH A1 i (keyOf p) ((look A (keyOf p)).getD (newF now)) p ∧ NK A1 ∧ A1[i]? = some (keyOf p, (look A (keyOf p)).getD (newF now)) ∧ (∀ k', k' ≠ keyOf p → look A1 k' = look A k') ∧ A1.length ≤ A.length + 1 ∧ (∀ x ∈ A1, x ∈ A ∨ x.1 = keyOf p) ∧ ((look A (keyOf p)).isSome = true → A1 = A) := by
  have e1 : putA A now p = match hasK A (keyOf p) with
    | some i => putH A i (keyOf p) ((A[i]?.map (·.2)).getD (newF now)) p
    | none => putH (A ++ [(keyOf p, newF now)]) A.length (keyOf p) (newF now) p := by
    unfold putA
    rw [hv, if_neg (by simp), if_neg (by rintro ⟨a, b⟩; rcases hf with q | q; (rw [a] at q; cases q); exact q b)]
    cases hasK A (keyOf p) <;> rfl
  cases hl : look A (keyOf p) with
  | none =>
    have hk := hasK_no (lk_none.1 hl)
    rw [hk] at e1
    refine ⟨A ++ [(keyOf p, newF now)], A.length, e1, nk_append hn hl, by rw [List.getElem?_append_right (Nat.le_refl _), Nat.sub_self]; rfl, fun k' h' => by rw [look_append hl, if_neg h'], by simp, fun x hx => ?_, fun q => (by cases q)⟩
    rcases List.mem_append.1 hx with q | q
    · exact .inl q
    · simp at q; exact .inr (by rw [q])
  | some H =>
    obtain ⟨i, h1, h2⟩ := (lk_some hn).1 hl
    rw [h2] at e1
    refine ⟨A, i, ?_, hn, h1, fun _ _ => rfl, by omega, fun x hx => .inl hx, fun _ => rfl⟩
    rw [e1]
    show putH A i _ ((Option.map _ A[i]?).getD _) p = _
    rw [h1]; rfl
/-- the datagram that comes out -/
def outP (p : Pk) : Pk := { p with df := false, mf := false, off := 0 }
/-- a fragment of p among others -/
theorem put_good {p : Pk} {n : Nat} (h : CutP p n) {A : List (Ky × Hf)} (hn : NK A) {C : Nat → Bool} {now : Int} (g : Good p n C ((look A (keyOf p)).getD (newF now))) {k : Nat} (hk : k < count p n) (hv : vldB (pieceAt p n k) = true) :
    ∃ A', NK A' ∧ (∀ k', k' ≠ keyOf p → look A' k' = look A k') ∧ A'.length ≤ A.length + 1 ∧ (∀ x ∈ A', x ∈ A ∨ x.1 = keyOf p) ∧
      (((∀ i, i < count p n → C i = true ∨ i = k) ∧ putA A now (pieceAt p n k) = (A', outP p, true, 0) ∧ look A' (keyOf p) = none) ∨
       ((∃ i, i < count p n ∧ C i = false ∧ i ≠ k) ∧ putA A now (pieceAt p n k) = (A', pk0, false, 0) ∧ ∃ H, look A' (keyOf p) = some H ∧ Good p n (fun i => C i || decide (i = k)) H)) := by
  have hm := h.m2
  have hkey : keyOf (pieceAt p n k) = keyOf p := rfl
  have hfr : (pieceAt p n k).mf = true ∨ (pieceAt p n k).off ≠ 0 := by
    by_cases e : k = count p n - 1
    · right
      rw [piece_off h]
      have := Nat.mul_pos h.n0 (show 0 < k by omega)
      omega
    · left; rw [piece_mf h hk]; exact decide_eq_true e
  obtain ⟨A1, i, e1, n1, h1, l1, z1, m1, -⟩ := putA_at hn now (pieceAt p n k) hv hfr
  rw [hkey] at e1 h1 l1 m1
  have gs := good_store h g hk
  have gc := good_confl h g hk
  have gr := g.rej
  have gw := good_whole h gs
  have gb := good_bytes h gs
  generalize (look A (keyOf p)).getD (newF now) = H at *
  unfold putH at e1
  rw [if_neg (by rw [gr]; simp), if_neg (by rw [gc]; simp)] at e1
  by_cases hw : wholeB (storeF H (pieceAt p n k)) = true
  · rw [if_pos hw] at e1
    have hall := gw.1 hw
    obtain ⟨b1, b2⟩ := gb hall
    refine ⟨A1.eraseIdx i, nk_erase n1 i, fun k' h' => by rw [look_erase h1 n1, if_neg h', l1 k' h'], Nat.le_trans (List.length_eraseIdx_le ..) z1, fun x hx => m1 x ((List.eraseIdx_sublist _ _).subset hx), .inl ⟨fun j hj => ?_, ?_, by rw [look_erase h1 n1, if_pos rfl]⟩⟩
    · have := hall j hj
      rw [Bool.or_eq_true, decide_eq_true_eq] at this
      exact this
    · rw [e1]
      unfold outF outP
      rw [b1, b2]
      rfl
  · rw [if_neg hw] at e1
    refine ⟨A1.set i (keyOf p, storeF H (pieceAt p n k)), nk_set n1 h1, fun k' h' => by rw [look_set h1 n1, if_neg h', l1 k' h'], by rw [List.length_set]; exact z1, fun x hx => ?_, .inr ⟨?_, e1, _, by rw [look_set h1 n1, if_pos rfl], gs⟩⟩
    · rcases List.mem_or_eq_of_mem_set hx with q | q
      · exact m1 x q
      · exact .inr (by rw [q])
    · apply Classical.byContradiction
      intro hno
      apply hw
      rw [gw]
      intro j hj
      rw [Bool.or_eq_true, decide_eq_true_eq]
      cases hc : C j with
      | true => exact .inl rfl
      | false => exact .inr (Classical.byContradiction fun hne => hno ⟨j, hj, hc, hne⟩)
end Go.Proofs.YtmgjcjacoegocaaGreatDoor.Re

namespace Go.Proofs.YtmgjcjacoegocaaGreatDoor.Re
set_option maxRecDepth 100000
open Go.RowKit Go.Proofs.YtmgjcjacoegocaaGreatDoor.Wire
open Go.Proofs.YtmgjcjacoegocaaGreatDoor.Ip (Pk pieceAt count frags count_lt)

theorem rot_inj {M t a b : Nat} (ha : a < M) (hb : b < M) (h : (a + t) % M = (b + t) % M) : a = b := by
  have key : ∀ x y : Nat, x < M → y ≤ x → (x + t) % M = (y + t) % M → x = y := fun x y hx hy h => by
    have h1 := Nat.sub_mod_eq_zero_of_mod_eq h
    have h2 : (x + t) - (y + t) = x - y := by omega
    rw [h2, Nat.mod_eq_of_lt (by omega)] at h1
    omega
  rcases Nat.le_total b a with q | q
  · exact key a b ha q h
  · exact (key b a hb q h.symm).symm
theorem rot_onto {M t j : Nat} (hj : j < M) : ∃ a, a < M ∧ (a + t) % M = j := by
  have hM : 0 < M := by omega
  refine ⟨(j + M - t % M) % M, Nat.mod_lt _ hM, ?_⟩
  rw [Nat.mod_add_mod]
  have h1 := Nat.mod_lt t hM
  have h2 := Nat.div_add_mod t M
  have e : j + M - t % M + t = j + M * (1 + t / M) := by rw [Nat.mul_add, Nat.mul_one]; omega
  rw [e, Nat.add_mul_mod_self_left, Nat.mod_eq_of_lt hj]
/-- piece j has come when i frames have been sent, those below lost being lost -/
def seen (M t lost i j : Nat) : Bool := decide (∃ a, a < i ∧ lost ≤ a ∧ (a + t) % M = j)
theorem seen_zero (M t lost j : Nat) : seen M t lost 0 j = false := by
  unfold seen
  exact decide_eq_false (fun ⟨a, h, _⟩ => by omega)
theorem seen_lost {M t lost i : Nat} (h : i < lost) (j : Nat) : seen M t lost (i + 1) j = seen M t lost i j := by
  unfold seen
  rw [decide_eq_decide]
  constructor
  · rintro ⟨a, h1, h2, h3⟩; exact ⟨a, by omega, h2, h3⟩
  · rintro ⟨a, h1, h2, h3⟩; exact ⟨a, by omega, h2, h3⟩
theorem seen_succ {M t lost i : Nat} (h : lost ≤ i) (j : Nat) : seen M t lost (i + 1) j = (seen M t lost i j || decide (j = (i + t) % M)) := by
  unfold seen
  rw [← Bool.decide_or, decide_eq_decide]
  constructor
  · rintro ⟨a, h1, h2, h3⟩
    by_cases e : a = i
    · subst e; exact .inr h3.symm
    · exact .inl ⟨a, by omega, h2, h3⟩
  · rintro (⟨a, h1, h2, h3⟩ | h3)
    · exact ⟨a, by omega, h2, h3⟩
    · exact ⟨i, by omega, h, h3.symm⟩
theorem seen_no {M t lost i a : Nat} (ha : a < M) (hi : i ≤ M) (h : i ≤ a ∨ a < lost) : seen M t lost i ((a + t) % M) = false := by
  unfold seen
  refine decide_eq_false ?_
  rintro ⟨b, h1, h2, h3⟩
  have := rot_inj (by omega) ha h3
  omega
/-- a datagram that is carried in fragments of n bytes -/
structure WholeR (p : Pk) (n : Nat) : Prop where
  cut : CutP p n
  df : p.df = false
  val : ∀ k, k < count p n → vldB (pieceAt p n k) = true
theorem WholeR.out {p : Pk} {n : Nat} (h : WholeR p n) : outP p = p := by
  have h1 := h.cut.off; have h2 := h.cut.mf; have h3 := h.df
  obtain ⟨a, b, c, d, e, f, g, i, j⟩ := p
  unfold outP
  dsimp only at *
  rw [h1, h2, h3]
/-- the table when i frames have been sent -/
def RSt (p : Pk) (n t lost i : Nat) (A : List (Ky × Hf)) : Prop := NK A ∧ ∀ now, Good p n (seen (count p n) t lost i) ((look A (keyOf p)).getD (newF now))
theorem RSt.start {p : Pk} {n : Nat} (t lost : Nat) : RSt p n t lost 0 [] :=
  ⟨List.nodup_nil, fun now => by
    rw [look_nil]
    have e : seen (count p n) t lost 0 = fun _ => false := funext fun j => seen_zero _ _ _ j
    rw [e]; exact good_new now⟩
theorem RSt.skip {p : Pk} {n t lost i : Nat} {A : List (Ky × Hf)} (h : RSt p n t lost i A) (hi : i < lost) : RSt p n t lost (i + 1) A :=
  ⟨h.1, fun now => by
    have e : seen (count p n) t lost (i + 1) = seen (count p n) t lost i := funext fun j => seen_lost hi j
    rw [e]; exact h.2 now⟩
theorem RSt.other {p : Pk} {n t lost i : Nat} {A A' : List (Ky × Hf)} (h : RSt p n t lost i A) (hn : NK A') (e : look A' (keyOf p) = look A (keyOf p)) : RSt p n t lost i A' := ⟨hn, fun now => by rw [e]; exact h.2 now⟩
/-- the next frame arrives: the datagram comes out with the last one, if none was lost, and not before -/
theorem RSt.put {p : Pk} {n t lost i : Nat} {A : List (Ky × Hf)} (hw : WholeR p n) (h : RSt p n t lost i A) (hi : i < count p n) (hl : lost ≤ i) (now : Int) :
    ∃ A', NK A' ∧ (∀ k', k' ≠ keyOf p → look A' k' = look A k') ∧ (∀ x ∈ A', x ∈ A ∨ x.1 = keyOf p) ∧
      ((lost = 0 ∧ i + 1 = count p n ∧ putA A now (pieceAt p n ((i + t) % count p n)) = (A', p, true, 0)) ∨
       (¬ (lost = 0 ∧ i + 1 = count p n) ∧ putA A now (pieceAt p n ((i + t) % count p n)) = (A', pk0, false, 0) ∧ RSt p n t lost (i + 1) A')) := by
  have hM : 0 < count p n := by omega
  have hk := Nat.mod_lt (i + t) hM
  obtain ⟨A', n', l', -, m', hres⟩ := put_good hw.cut h.1 (now := now) (h.2 now) hk (hw.val _ hk)
  refine ⟨A', n', l', m', ?_⟩
  rcases hres with ⟨hall, hput, -⟩ | ⟨⟨j, hj, hcj, hjk⟩, hput, H, hlk, hgH⟩
  · left
    have h0 : lost = 0 := by
      rcases Nat.eq_zero_or_pos lost with q | q
      · exact q
      · exfalso
        have hk0 := Nat.mod_lt (0 + t) hM
        rcases hall _ hk0 with r | r
        · rw [seen_no hM (by omega) (.inr q)] at r; cases r
        · have := rot_inj hM hi r; omega
    refine ⟨h0, ?_, by rw [hput, hw.out]⟩
    apply Classical.byContradiction
    intro hne
    have hlast := Nat.mod_lt (i + 1 + t) hM
    rcases hall _ hlast with r | r
    · rw [seen_no (a := i + 1) (by omega) (by omega) (.inl (by omega))] at r; cases r
    · have := rot_inj (a := i + 1) (by omega) hi r; omega
  · right
    refine ⟨?_, hput, n', fun now' => ?_⟩
    · rintro ⟨h0, h1⟩
      obtain ⟨a, ha, rfl⟩ := rot_onto (t := t) hj
      have hai : a ≠ i := fun e => hjk (by rw [e])
      have : seen (count p n) t lost i ((a + t) % count p n) = true := decide_eq_true ⟨a, by omega, by omega, rfl⟩
      rw [this] at hcj; cases hcj
    · rw [hlk]
      refine good_congr hgH hw.cut.n0 hM (fun j _ => ?_)
      exact seen_succ hl j
end Go.Proofs.YtmgjcjacoegocaaGreatDoor.Re

namespace Go.Proofs.YtmgjcjacoegocaaGreatDoor.Re
set_option maxRecDepth 100000
open Go.RowKit Go.Proofs.YtmgjcjacoegocaaGreatDoor.Wire
open Go.Proofs.YtmgjcjacoegocaaGreatDoor.Ip (Pk pieceAt count frags count_lt frags_length fragN fragN_bd fragList VLen vlenB PkRow)

/-- Fragment of a valid datagram that may be cut, and begins at 0 -/
structure Cutable (p : Pk) (n : Int) : Prop where
  ok : p.ok
  df : p.df = false
  mf : p.mf = false
  off : p.off = 0
  n68 : 68 ≤ n
theorem Cutable.list {p : Pk} {n : Int} (h : Cutable p n) : (fragList p n = [p]) ∨ (fragList p n = frags p (fragN n) (count p (fragN n)) ∧ WholeR p (fragN n)) := by
  have hv := h.ok
  unfold Ip.Pk.ok at hv
  have h4 : p.s.size ≤ 4000 := by unfold VLen at hv; omega
  obtain ⟨N1, N2, N3⟩ := fragN_bd n h.n68
  unfold fragList
  rw [if_neg (by simpa using hv), if_neg (by have := h.n68; omega)]
  by_cases hb : 20 + (p.s.size : Int) ≤ n
  · left; rw [if_pos hb]
  · right
    rw [if_neg hb, if_neg (by rw [h.df]; simp)]
    refine ⟨rfl, ⟨by omega, h.off, h.mf, by omega, h4⟩, h.df, fun k hk => ?_⟩
    have hk2 := (count_lt p (fragN n) k (by omega)).1 hk
    have := Ip.piece_ok p h.ok h.df (fragN n) k N3 (by omega) hk2
    unfold Ip.Pk.ok at this
    unfold vldB vlenB
    exact decide_eq_true this
/-- what is known of the table's data when i frames have been sent (those below lost being lost) -/
def RS1 (p : Pk) (n : Int) (t lost i : Nat) (A : List (Ky × Hf)) : Prop :=
  (∀ x ∈ A, x.1 = keyOf p) ∧ NK A ∧ ((fragList p n = [p]) ∨ (fragList p n = frags p (fragN n) (count p (fragN n)) ∧ WholeR p (fragN n) ∧ RSt p (fragN n) t lost i A))
theorem RS1.start {p : Pk} {n : Int} (h : Cutable p n) (t lost : Nat) : RS1 p n t lost 0 [] :=
  ⟨fun x hx => (by cases hx), List.nodup_nil, by
    rcases h.list with q | ⟨q, r⟩
    · exact .inl q
    · exact .inr ⟨q, r, RSt.start t lost⟩⟩
theorem RS1.skip {p : Pk} {n : Int} {t lost i : Nat} {A : List (Ky × Hf)} (h : RS1 p n t lost i A) (hi : i < lost) : RS1 p n t lost (i + 1) A :=
  ⟨h.1, h.2.1, by
    rcases h.2.2 with q | ⟨q, r, s⟩
    · exact .inl q
    · exact .inr ⟨q, r, s.skip hi⟩⟩
theorem RS1.len {p : Pk} {n : Int} {t lost i : Nat} {A : List (Ky × Hf)} (h : RS1 p n t lost i A) : A.length ≤ 1 := by
  obtain ⟨h1, h2, -⟩ := h
  match A, h1, h2 with
  | [], _, _ => simp
  | [x], _, _ => simp
  | x :: y :: r, h1, h2 =>
    exfalso
    have e1 := h1 x (by simp)
    have e2 := h1 y (by simp)
    unfold NK at h2
    rw [List.map_cons, List.map_cons, e1, e2] at h2
    simp at h2
/-- the next frame arrives -/
theorem RS1.put {p : Pk} {n : Int} {t lost i : Nat} {A : List (Ky × Hf)} (hc : Cutable p n) (h : RS1 p n t lost i A) (hi : i < (fragList p n).length) (hl : lost ≤ i) (now : Int) (P : Pk) (hP : (fragList p n)[(i + t) % (fragList p n).length]? = some P) :
    ∃ A', (lost = 0 ∧ i + 1 = (fragList p n).length ∧ putA A now P = (A', p, true, 0)) ∨ (¬ (lost = 0 ∧ i + 1 = (fragList p n).length) ∧ putA A now P = (A', pk0, false, 0) ∧ RS1 p n t lost (i + 1) A') := by
  obtain ⟨h1, h2, h3⟩ := h
  rcases h3 with q | ⟨q, r, s⟩
  · rw [q] at hi hP ⊢
    simp only [List.length_singleton] at hi hP ⊢
    rw [Nat.mod_one] at hP
    simp only [List.getElem?_cons_zero, Option.some.injEq] at hP
    subst hP
    obtain rfl : i = 0 := by omega
    obtain rfl : lost = 0 := by omega
    refine ⟨A, .inl ⟨rfl, rfl, ?_⟩⟩
    have hv := hc.ok
    unfold Ip.Pk.ok at hv
    unfold putA
    have hvb : vldB p = true := by unfold vldB vlenB; exact decide_eq_true hv
    rw [hvb, if_neg (by simp), if_pos ⟨hc.mf, hc.off⟩]
  · rw [q] at hi hP ⊢
    rw [frags_length] at hi hP ⊢
    have hk := Nat.mod_lt (i + t) (show 0 < count p (fragN n) by omega)
    rw [Ip.frags_get p (fragN n) _ _ hk, Option.some.injEq] at hP
    subst hP
    obtain ⟨A', n', l', m', hres⟩ := s.put r hi hl now
    refine ⟨A', ?_⟩
    rcases hres with ⟨a, b, c⟩ | ⟨a, b, c⟩
    · exact .inl ⟨a, b, c⟩
    · refine .inr ⟨a, b, fun x hx => ?_, n', .inr ⟨q, r, c⟩⟩
      rcases m' x hx with e | e
      · exact h1 x e
      · exact e
/-- the row of the fragments, in memory: Fragment's contract by the list itself -/
theorem fragL {p : Pk} {n : Int} (h : Cutable p n) (w : World) : Calls Tryz.prog 10 #[p.val, .int .i64 n] w fun e w' => (∃ g cap : Nat, e = .returned (.tuple #[.slice (some ⟨g, 0, none⟩) (fragList p n).length cap, .int .i64 0]) ∧ w.heap.size ≤ g ∧ PkRow w' g (fragList p n)) ∧ Below w.heap.size w w' := by
  have hs : p.s.size ≤ 4000 := by have := h.ok; unfold Ip.Pk.ok VLen at this; omega
  refine (Ip.Fragment_any p n w (by omega)).mono ?_
  rintro e w' ⟨v, rfl, hrow, hb⟩
  obtain ⟨g, cap, rfl, hg, hr⟩ := Ip.pkRow_of hrow (Ip.frag_spec p h.ok h.df n h.n68).pos
  exact ⟨⟨g, cap, by rw [Ip.frag_err p h.ok h.df n h.n68], hg, hr⟩, hb⟩
theorem row_same {W W' : World} {g : Nat} {l : List Pk} (h : PkRow W g l) (e : W'.heap[g]? = W.heap[g]?) : PkRow W' g l := by obtain ⟨cur, a, b⟩ := h; exact ⟨cur, e.trans a, b⟩
/-- the table beside the row of the fragments -/
structure JR (w : World) (B0 T g : Nat) (l : List Pk) (A : List (Ky × Hf)) (W : World) : Prop where
  one : OneT w T A (fun q => q < B0) W
  row : PkRow W g l
  lt : g < B0
theorem JR.below {w W W' : World} {B0 T g : Nat} {l : List Pk} {A : List (Ky × Hf)} (h : JR w B0 T g l A W) (hb : Below W.heap.size W W') : JR w B0 T g l A W' := ⟨h.one.below hb, h.row.below hb, h.lt⟩
theorem JR.alloc {w W : World} {B0 T g : Nat} {l : List Pk} {A : List (Ky × Hf)} (h : JR w B0 T g l A W) (o : Obj) : JR w B0 T g l A (W.alloc o) := h.below ((Below.refl W.heap.size W).alloc (Nat.le_refl _) o)
theorem JR.put {w W : World} {B0 T g : Nat} {l : List Pk} {A : List (Ky × Hf)} (h : JR w B0 T g l A W) (now : Int) (P q : Pk) (A' : List (Ky × Hf)) (ok : Bool) (err : Int) (he : putA A now P = (A', q, ok, err)) (hs : P.s.size ≤ 9223372036854775807) (hL : A.length < 8) (hnow : In64 now) (hB : B0 ≤ W.heap.size) :
    Calls Tryz.prog 12 #[.pointer (some ⟨T, 0, none⟩), .int .i64 now, .agg #[.int .i64 P.f, .int .i64 P.t, .int .i64 P.pr, .int .i64 P.ttl, .int .i64 P.id, .bool P.df, .bool P.mf, .int .i64 P.off, .string P.s]] W fun x w' => x = PutRes q ok err ∧ JR w B0 T g l A' w' ∧ W.heap.size ≤ w'.heap.size := by
  refine (h.one.put now P A' q ok err he hs (.inl hL) (by omega) hnow).mono ?_
  rintro x w' ⟨hx, ho, hz, hk⟩
  exact ⟨hx, ⟨ho.more (fun q hq => .inl ⟨hq, by omega⟩), row_same h.row (hk g h.lt (by have := h.lt; omega)), h.lt⟩, hz⟩
end Go.Proofs.YtmgjcjacoegocaaGreatDoor.Re

namespace Go.Proofs.YtmgjcjacoegocaaGreatDoor.Re
set_option maxRecDepth 100000
open Go.RowKit Go.Proofs.YtmgjcjacoegocaaGreatDoor.Wire
open Go.Proofs.YtmgjcjacoegocaaGreatDoor.Ip (Pk pieceAt count frags count_lt frags_length fragN fragN_bd fragList VLen vlenB PkRow)

/-- Put leaves other datagrams alone -/
theorem putA_oth {A : List (Ky × Hf)} (hn : NK A) (now : Int) (p : Pk) (hv : vldB p = true) : ∃ A' q ok err, putA A now p = (A', q, ok, err) ∧ NK A' ∧ (∀ k', k' ≠ keyOf p → look A' k' = look A k') ∧ ∀ x ∈ A', x ∈ A ∨ x.1 = keyOf p := by
  by_cases hf : p.mf = false ∧ p.off = 0
  · exact ⟨A, p, true, 0, by unfold putA; rw [if_neg (by rw [hv]; simp), if_pos hf], hn, fun _ _ => rfl, fun x hx => .inl hx⟩
  · have hf' : p.mf = true ∨ p.off ≠ 0 := by
      cases hm : p.mf with
      | true => exact .inl rfl
      | false => exact .inr fun h0 => hf ⟨hm, h0⟩
    obtain ⟨A1, i, e1, n1, h1, l1, z1, m1, -⟩ := putA_at hn now p hv hf'
    rw [e1]
    unfold putH
    have hset : ∀ (H : Hf), NK (A1.set i (keyOf p, H)) ∧ (∀ k', k' ≠ keyOf p → look (A1.set i (keyOf p, H)) k' = look A k') ∧ ∀ x ∈ A1.set i (keyOf p, H), x ∈ A ∨ x.1 = keyOf p := fun H => by
      refine ⟨nk_set n1 h1, fun k' h' => by rw [look_set h1 n1, if_neg h', l1 k' h'], fun x hx => ?_⟩
      rcases List.mem_or_eq_of_mem_set hx with q | q
      · exact m1 x q
      · exact .inr (by rw [q])
    split
    · exact ⟨_, _, _, _, rfl, n1, l1, m1⟩
    · split
      · exact ⟨_, _, _, _, rfl, hset _⟩
      · split
        · exact ⟨_, _, _, _, rfl, nk_erase n1 i, fun k' h' => by rw [look_erase h1 n1, if_neg h', l1 k' h'], fun x hx => m1 x ((List.eraseIdx_sublist _ _).subset hx)⟩
        · exact ⟨_, _, _, _, rfl, hset _⟩
/-- what is known of the table's data when i frames have come, with fragments of the key k5 between them -/
def RS2 (k5 : Ky) (p : Pk) (n : Int) (t i : Nat) (A : List (Ky × Hf)) : Prop :=
  (∀ x ∈ A, x.1 = keyOf p ∨ x.1 = k5) ∧ NK A ∧ ((fragList p n = [p]) ∨ (fragList p n = frags p (fragN n) (count p (fragN n)) ∧ WholeR p (fragN n) ∧ RSt p (fragN n) t 0 i A))
theorem RS2.start {k5 : Ky} {p : Pk} {n : Int} (h : Cutable p n) (t : Nat) : RS2 k5 p n t 0 [] :=
  ⟨fun x hx => (by cases hx), List.nodup_nil, by
    rcases h.list with q | ⟨q, r⟩
    · exact .inl q
    · exact .inr ⟨q, r, RSt.start t 0⟩⟩
theorem RS2.len {k5 : Ky} {p : Pk} {n : Int} {t i : Nat} {A : List (Ky × Hf)} (h : RS2 k5 p n t i A) : A.length ≤ 2 := by
  obtain ⟨h1, h2, -⟩ := h
  unfold NK at h2
  match A, h1, h2 with
  | [], _, _ => simp
  | [x], _, _ => simp
  | [x, y], _, _ => simp
  | x :: y :: z :: r, h1, h2 =>
    exfalso
    have e1 := h1 x (by simp)
    have e2 := h1 y (by simp)
    have e3 := h1 z (by simp)
    simp only [List.map_cons, List.nodup_cons, List.mem_cons, not_or] at h2
    obtain ⟨⟨a1, a2, -⟩, ⟨a3, -⟩, -⟩ := h2
    rcases e1 with e1 | e1 <;> rcases e2 with e2 | e2 <;> rcases e3 with e3 | e3
    all_goals first
      | exact a1 (e1.trans e2.symm)
      | exact a2 (e1.trans e3.symm)
      | exact a3 (e2.trans e3.symm)
/-- a fragment of the attacker -/
theorem RS2.foe {k5 : Ky} {p : Pk} {n : Int} {t i : Nat} {A : List (Ky × Hf)} (h : RS2 k5 p n t i A) (hk : keyOf p ≠ k5) (now : Int) (P : Pk) (hP : keyOf P = k5) : ∃ A' q ok err, putA A now P = (A', q, ok, err) ∧ RS2 k5 p n t i A' := by
  obtain ⟨h1, h2, h3⟩ := h
  cases hv : vldB P with
  | false => exact ⟨A, pk0, false, 60, by unfold putA; rw [if_pos hv], h1, h2, h3⟩
  | true =>
    obtain ⟨A', q, ok, err, e, n', l', m'⟩ := putA_oth h2 now P hv
    refine ⟨A', q, ok, err, e, fun x hx => ?_, n', ?_⟩
    · rcases m' x hx with r | r
      · exact h1 x r
      · exact .inr (r.trans hP)
    · rcases h3 with r | ⟨r, s, u⟩
      · exact .inl r
      · exact .inr ⟨r, s, u.other n' (l' _ (fun e2 => hk (e2.trans hP)))⟩
/-- the next frame arrives -/
theorem RS2.put {k5 : Ky} {p : Pk} {n : Int} {t i : Nat} {A : List (Ky × Hf)} (hc : Cutable p n) (h : RS2 k5 p n t i A) (hi : i < (fragList p n).length) (now : Int) (P : Pk) (hP : (fragList p n)[(i + t) % (fragList p n).length]? = some P) :
    ∃ A', (i + 1 = (fragList p n).length ∧ putA A now P = (A', p, true, 0)) ∨ (i + 1 < (fragList p n).length ∧ putA A now P = (A', pk0, false, 0) ∧ RS2 k5 p n t (i + 1) A') := by
  obtain ⟨h1, h2, h3⟩ := h
  rcases h3 with q | ⟨q, r, s⟩
  · rw [q] at hi hP ⊢
    simp only [List.length_singleton] at hi hP ⊢
    rw [Nat.mod_one] at hP
    simp only [List.getElem?_cons_zero, Option.some.injEq] at hP
    subst hP
    obtain rfl : i = 0 := by omega
    refine ⟨A, .inl ⟨rfl, ?_⟩⟩
    have hv := hc.ok
    unfold Ip.Pk.ok at hv
    unfold putA
    have hvb : vldB p = true := by unfold vldB vlenB; exact decide_eq_true hv
    rw [hvb, if_neg (by simp), if_pos ⟨hc.mf, hc.off⟩]
  · rw [q] at hi hP ⊢
    rw [frags_length] at hi hP ⊢
    have hk := Nat.mod_lt (i + t) (show 0 < count p (fragN n) by omega)
    rw [Ip.frags_get p (fragN n) _ _ hk, Option.some.injEq] at hP
    subst hP
    obtain ⟨A', n', l', m', hres⟩ := s.put r hi (Nat.zero_le _) now
    refine ⟨A', ?_⟩
    rcases hres with ⟨a, b, c⟩ | ⟨a, b, c⟩
    · exact .inl ⟨b, c⟩
    · refine .inr ⟨by omega, b, fun x hx => ?_, n', .inr ⟨q, r, c⟩⟩
      rcases m' x hx with e | e
      · exact h1 x e
      · exact .inl e
end Go.Proofs.YtmgjcjacoegocaaGreatDoor.Re
