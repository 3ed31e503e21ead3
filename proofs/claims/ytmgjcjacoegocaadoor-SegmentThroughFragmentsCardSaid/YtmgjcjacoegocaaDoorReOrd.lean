/-
  The contract of the table's iterator (inOrder): at each yield the key and its datagram, in the order in which they were created; a round may turn the table.
-/
import Derived.Test.YtmgjcjacoegocaaDoorReClone
import Derived.Test.YtmgjcjacoegocaaDoorRange2
import Derived.OwnWalkIn
import Derived.TacticsInMore
import Derived.LoopNIn
import Derived.LoopIn
import Derived.Shelf.Abstract
import Derived.Shelf.RegionOpen
import Derived.Stop.RegionWithIn
namespace Go.Proofs.YtmgjcjacoegocaaDoor.Re
set_option maxRecDepth 100000
open Go.RowKit Go.Proofs.YtmgjcjacoegocaaDoor.Wire Go.Shelf
attribute [local go_sem] Oper.semAt_some

def BoxT (W : World) (bx T : Nat) : Prop := W.heap[bx]? = some (.cells #[.pointer (some ⟨T, 0, none⟩)] 84)
def kArgs (e : En) : Array Value := #[.agg #[.int .i64 e.k.f, .int .i64 e.k.t, .int .i64 e.k.p, .int .i64 e.k.i], .pointer (some ⟨e.hb, 0, none⟩)]
theorem row_cells {W : World} {f c : Nat} {L : List En} (h : W.ownsRow 0 168 4 (.slice (some ⟨f, 0, none⟩) L.length c) L.length (enCells (L.map (·.k)))) {i : Nat} {e : En} (hi : L[i]? = some e) :
    W.cell? ⟨f, i * 4, none⟩ = some (.int .i64 e.k.f) ∧ W.cell? ⟨f, i * 4 + 1, none⟩ = some (.int .i64 e.k.t) ∧ W.cell? ⟨f, i * 4 + 2, none⟩ = some (.int .i64 e.k.p) ∧ W.cell? ⟨f, i * 4 + 3, none⟩ = some (.int .i64 e.k.i) := by
  have ho := ord_of_owns h (by simp)
  rcases ho with ⟨q, -⟩ | ⟨g, q, hr, -⟩
  · cases q
  · cases q
    exact hr.cells i e.k (by simp [hi])
theorem own_slice {W : World} {B n : Nat} {T : TypeId} {z : Nat} {v : Value} {xs : List Value} (h : W.ownsRow B T z v n xs) : ∃ A c, v = .slice A n c := by
  rcases h.2 with ⟨e, h0⟩ | ⟨g, c, cur, e, -⟩
  · exact ⟨none, 0, by rw [e, h0]⟩
  · exact ⟨_, c, e⟩
/-- what a round gives back -/
def YP (St : World → Prop) (Xx : Code → World → Prop) (l : Nat) (r : Loop) (b : Bool) (W' : World) : Prop := (b = true ∧ St W' ∧ LoopK l r W') ∨ (b = false ∧ ∃ c, Xx c W' ∧ LoopK l { r with state := .done, pending := some c } W')
set_option maxHeartbeats 4000000 in
theorem inOrder1_wide (n : Nat) (hn : 1 ≤ n) (T bx l : Nat) (r : Loop) (L : List En) (hL : L.length ≤ 1000)
    (St0 : World → Prop) (St : Nat → Obj → Nat → World → Prop) (Xx : Code → World → Prop)
    (h0 : ∀ W, St0 W → BoxT W bx T ∧ ∃ m es clk O oc, Tab W T m es clk O oc L)
    (hstart : ∀ W W' f o, St0 W → Below W.heap.size W W' → W.heap.size ≤ f → W'.heap[f]? = some o → St f o 0 W')
    (hempty : ∀ W W', St0 W → Below W.heap.size W W' → L = [] → ∃ f o, St f o 0 W')
    (hdown : ∀ f o i W W', St f o i W → Below W.heap.size W W' → St f o i W')
    (hlook : ∀ f o i e W, St f o i W → L[i]? = some e → W.heap[f]? = some o ∧ BoxT W bx T ∧ ∃ (m : Nat) (es : Array MapEntry) (clk : Nat) (O : Option Addr) (oc : Nat) (L' : List En) (j : Nat), Tab W T m es clk O oc L' ∧ L'[j]? = some e)
    (hY : ∀ f o i e W1, L[i]? = some e → St f o i W1 → LoopK l r W1 → YieldAt Fence.wide (n - 1) Tryd.prog (l + 1) (kArgs e) W1 fun x W' =>
      (x = .returned (.bool true) ∧ St f o (i + 1) W' ∧ LoopK l r W') ∨ (x = .returned (.bool false) ∧ ∃ c, Xx c W' ∧ LoopK l { r with state := .done, pending := some c } W'))
    (W : World) (hW : St0 W) (hk : LoopK l r W) :
    CallsIn Fence.wide n Tryd.prog 107 #[.func (.yield (l + 1)) #[] #[], .pointer (some ⟨bx, 0, none⟩)] W fun x W' => (∃ v, x = .returned v) ∧
      (((∃ f o, St f o L.length W') ∧ LoopK l r W') ∨ ∃ c, Xx c W' ∧ LoopK l { r with state := .done, pending := some c } W') := by
  refine callsIn_of_wp Tryd.func107 rfl trivial ?_ rfl
  simp only [Tryd.ntmps107, List.size_toArray, List.length_cons, List.length_nil, Nat.reduceAdd, Nat.reduceSub, Array.replicate_succ, Array.replicate_zero, List.push_toArray, List.append_toArray, List.nil_append, List.cons_append]
  obtain ⟨hbx, m, es, clk, O, oc, hT⟩ := h0 W hW
  have q0 := (cell_of_box hbx).1
  have q1 := (cell_of_block (k := 1) hT.tab rfl).1
  have HCL := Lib.hid (clone_any O L.length oc (L.map (·.k)) W hT.ord hL)
  clear hT hbx
  gi_wp2_with (refine ⟨trivial, ?_⟩; gi_at_call 108; refine ((callsIn_wide.2 HCL.out)).mono ?_; rintro x w1 ⟨v, rfl, hv, hb⟩; obtain ⟨A, cc, rfl⟩ := own_slice hv)
  have HS0 := Lib.hid hW
  have HK1 := Lib.hid (hk.below hb)
  have HB1 := Lib.hid hb
  have HV := Lib.hid hv
  obtain ⟨f, o, hst, hrow⟩ : ∃ f o, St f o 0 w1 ∧ (0 < L.length → A = some ⟨f, 0, none⟩ ∧ ∀ W' : World, W'.heap[f]? = some o → W'.ownsRow 0 168 4 (.slice (some ⟨f, 0, none⟩) L.length cc) L.length (enCells (L.map (·.k)))) := by
    rcases hv.2 with ⟨e, h0⟩ | ⟨f, c', cur, e, h1, h2, h3⟩
    · obtain ⟨f, o, hst⟩ := hempty W w1 hW hb (List.eq_nil_of_length_eq_zero h0)
      exact ⟨f, o, hst, fun q => by omega⟩
    · injection e with e1 e2 e3
      subst e1; subst e3
      exact ⟨f, _, hstart W w1 f _ hW hb h1 h2, fun _ => ⟨rfl, fun W' hw' => ⟨hv.1, .inr ⟨f, _, cur, rfl, Nat.zero_le _, hw', h3⟩⟩⟩⟩
  have hrow := hrow
  clear q0 q1 hW hk HCL HS0 h0 hstart hempty
  gi_loopw [11] (fun i wr => ∃ k : Nat, k ≤ L.length ∧ i = .int .i64 (k : Int) ∧ St f o k wr ∧ LoopK l r wr) (fun i wr => L.length - (intOf i).toNat)
  case atStart => exact ⟨0, by omega, rfl, hst, HK1.out⟩
  case round =>
    clear hst HK1
    obtain ⟨k, hk4, rfl, hS, hLk⟩ := hrel
    have HS := Lib.hid hS; have HL := Lib.hid hLk; clear hS hLk
    by_cases hlt : k < L.length
    · have hkl : decide ((k : Int) < (L.length : Int)) = true := by simp; omega
      have hk0 : (0 : Int) ≤ (k : Int) := by omega
      obtain ⟨e, he⟩ : ∃ e, L[k]? = some e := ⟨L[k], List.getElem?_eq_getElem hlt⟩
      obtain ⟨rfl, hro⟩ := hrow (by omega)
      obtain ⟨hfo, -, -⟩ := hlook f o k e wr HS.out he
      obtain ⟨c0, c1, c2, c3⟩ := row_cells (hro wr hfo) he
      have HE := Lib.hid he; clear he hfo hro hrow
      gi_wp2
      have KS := Lib.hid (hdown f o k _ _ HS.out ((Below.refl wr.heap.size wr).alloc (Nat.le_refl _) (.cells #[.int .i64 e.k.f, .int .i64 e.k.t, .int .i64 e.k.p, .int .i64 e.k.i] 168)))
      have KL := Lib.hid (HL.out.below ((Below.refl wr.heap.size wr).alloc (Nat.le_refl _) (.cells #[.int .i64 e.k.f, .int .i64 e.k.t, .int .i64 e.k.p, .int .i64 e.k.i] 168)))
      have KB := Lib.hid (alloc_new wr (.cells #[.int .i64 e.k.f, .int .i64 e.k.t, .int .i64 e.k.p, .int .i64 e.k.i] 168))
      clear c0 c1 c2 c3 HS HL
      generalize wr.alloc (.cells #[.int .i64 e.k.f, .int .i64 e.k.t, .int .i64 e.k.p, .int .i64 e.k.i] 168) = w2 at *
      obtain ⟨-, hbx, m2, es2, clk2, O2, oc2, L2, j2, hT2, hj2⟩ := hlook f o k e w2 KS.out HE.out
      have d0 := (cell_of_box hbx).1
      have d1 := (cell_of_block (k := 0) hT2.tab rfl).1
      have k0' := (cell_of_block (k := 0) KB.out rfl).1; have k1' := (cell_of_block (k := 1) KB.out rfl).1; have k2' := (cell_of_block (k := 2) KB.out rfl).1; have k3' := (cell_of_block (k := 3) KB.out rfl).1
      have hlk := look_some (W := w2.drew) (hT2.kept (fun _ _ => rfl)) hj2 false
      unfold En.ptr at hlk
      obtain ⟨fn, tmps, assign, body, hy, hRn⟩ := hY f o k e w2.drew HE.out (hdown f o k _ _ KS.out (Below.refl _ _).drew) (KL.out.below (Below.refl _ _).drew)
      unfold kArgs at hy
      clear hbx hT2 hj2
      have HRN := Lib.hid (hRn.mono (R' := fun x W' => ∃ b, x = .returned (.bool b) ∧ YP (St f o (k + 1)) Xx l r b W') (fun x W' hx => by
        rcases hx with ⟨q1, q2, q3⟩ | ⟨q1, q2⟩
        · exact ⟨true, q1, .inl ⟨rfl, q2, q3⟩⟩
        · exact ⟨false, q1, .inr ⟨rfl, q2⟩⟩))
      clear hRn
      gi_region_with (refine HRN.out.mono ?_; rintro x W' ⟨b, rfl, hx⟩)
      all_goals
        rcases hx with ⟨rfl, hs, hl⟩ | ⟨rfl, c, hx, hl⟩
        · gi_wp2
          go_roundw
          case rel => exact ⟨k + 1, by omega, by go_num, hs, hl⟩
          case measure => simp [intOf]; omega
        · gi_wp2
          refine bodyPost_ret (results_none rfl _ _ _) rfl ?_
          exact ⟨⟨_, rfl⟩, .inr ⟨c, hx, hl⟩⟩
    · obtain rfl : k = L.length := by omega
      have hkl : decide ((L.length : Int) < (L.length : Int)) = false := by simp
      gi_wp2
      go_end0
      exact ⟨⟨_, rfl⟩, .inl ⟨⟨f, o, HS.out⟩, HL.out⟩⟩
end Go.Proofs.YtmgjcjacoegocaaDoor.Re
