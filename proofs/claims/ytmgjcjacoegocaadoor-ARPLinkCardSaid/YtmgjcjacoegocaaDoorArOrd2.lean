/-
  The walk of the table's iterator: at each yield the address and its entry, in order of the addresses; a round may turn the table.
-/
import Derived.Test.YtmgjcjacoegocaaDoorArOrd
namespace Go.Proofs.YtmgjcjacoegocaaDoor.Ar
set_option maxRecDepth 100000
open Go.RowKit Go.Maps Go.Sort Go.Proofs.YtmgjcjacoegocaaDoor.Wire Go.Shelf
attribute [local go_sem] Oper.semAt_some

def BoxT (W : World) (bx T : Nat) : Prop := W.heap[bx]? = some (.cells #[.pointer (some ⟨T, 0, none⟩)] 43)
theorem krow_cell {W : World} {f c lo : Nat} {K : List Int} (h : KRow lo K (some ⟨f, 0, none⟩) c W) {i : Nat} {k : Int} (hi : K[i]? = some k) : W.cell? ⟨f, i, none⟩ = some (.int .i64 k) := by
  rcases h.2 with ⟨e, -⟩ | ⟨g, c', cur, e, -, h1, -, -, -, h4⟩
  · cases e
  · injection e with e1 e2 e3
    injection e1 with e1
    injection e1 with e1
    subst e1
    have hlt : i < K.length := (List.getElem?_eq_some_iff.1 hi).1
    have hc : cur[i]? = some (.int .i64 k) := by
      have h5 : (cur.toList.take (K.length * 1))[i]? = some (.int .i64 k) := by rw [h4, List.getElem?_map, hi]; rfl
      rw [List.getElem?_take] at h5
      simp [hlt] at h5
      first | exact h5 | exact h5.2
    exact (cell_of_block (k := i) h1 (by simpa using hc)).1
/-- what a round gives back -/
def YP (St : World → Prop) (Xx : Code → World → Prop) (l : Nat) (r : Loop) (b : Bool) (W' : World) : Prop := (b = true ∧ St W' ∧ LoopK l r W') ∨ (b = false ∧ ∃ c, Xx c W' ∧ LoopK l { r with state := .done, pending := some c } W')
set_option maxHeartbeats 4000000 in
theorem inOrder1_wide (n : Nat) (hn : 6 ≤ n) (T bx l : Nat) (r : Loop) (K : List Int) (hK : K.length ≤ 1000)
    (St0 : World → Prop) (St : Nat → Obj → Nat → World → Prop) (Xx : Code → World → Prop)
    (h0 : ∀ W, St0 W → BoxT W bx T ∧ ∃ m es clk c L, Tab W T m es clk c L ∧ (∀ e ∈ L, In64 e.k) ∧ L.length ≤ 1000 ∧ sortK L = K)
    (hstart : ∀ W W' f o, St0 W → Below W.heap.size W W' → W.heap.size ≤ f → W'.heap[f]? = some o → St f o 0 W')
    (hempty : ∀ W W', St0 W → Below W.heap.size W W' → K = [] → ∃ f o, St f o 0 W')
    (hlook : ∀ f o i k W, St f o i W → K[i]? = some k → W.heap[f]? = some o ∧ BoxT W bx T ∧ ∃ (m : Option Nat) (es : Array MapEntry) (clk : Nat) (c : Tc) (L : List En) (j : Nat) (e : En), Tab W T m es clk c L ∧ L[j]? = some e ∧ e.k = k)
    (hY : ∀ f o i e W1, K[i]? = some e.k → St f o i W1 → LoopK l r W1 → (∃ (m : Option Nat) (es : Array MapEntry) (clk : Nat) (c : Tc) (L : List En) (j : Nat), Tab W1 T m es clk c L ∧ L[j]? = some e) → YieldAt Fence.wide (n - 1) Tryd.prog (l + 1) #[.int .i64 e.k, e.val] W1 fun x W' =>
      (x = .returned (.bool true) ∧ St f o (i + 1) W' ∧ LoopK l r W') ∨ (x = .returned (.bool false) ∧ ∃ c, Xx c W' ∧ LoopK l { r with state := .done, pending := some c } W'))
    (W : World) (hW : St0 W) (hk : LoopK l r W) :
    CallsIn Fence.wide n Tryd.prog 88 #[.func (.yield (l + 1)) #[] #[], .pointer (some ⟨bx, 0, none⟩)] W fun x W' => (∃ v, x = .returned v) ∧
      (((∃ f o, St f o K.length W') ∧ LoopK l r W') ∨ ∃ c, Xx c W' ∧ LoopK l { r with state := .done, pending := some c } W') := by
  refine callsIn_of_wp Tryd.func88 rfl trivial ?_ rfl
  simp only [Tryd.ntmps88, List.size_toArray, List.length_cons, List.length_nil, Nat.reduceAdd, Nat.reduceSub, Array.replicate_succ, Array.replicate_zero, List.push_toArray, List.append_toArray, List.nil_append, List.cons_append]
  have hn1 : 1 ≤ n := by omega
  obtain ⟨hbx, m, es, clk, c, L, hT, hk64, hL, hKL⟩ := h0 W hW
  have q0 := (cell_of_box hbx).1
  have q2 := (cell_of_block (k := 2) hT.tab rfl).1
  have HKC := Lib.hid (fun W => keys_any (n - 1) m W)
  have HSC := Lib.hid (sorted_any (n - 1) (by omega) T m es clk c L W hT hk64 hL)
  rw [hKL] at HSC
  clear hT hbx hk64 hL hKL
  gi_wp2_with (first
    | (refine ⟨trivial, ?_⟩; gi_at_call 90; refine (HKC.out _).mono ?_; rintro x w' ⟨rfl, rfl⟩)
    | (refine ⟨trivial, ?_⟩; gi_at_call 89; refine HSC.out.mono ?_; rintro x w1 ⟨A, cc, rfl, hv, hb⟩))
  have HK1 := Lib.hid (hk.below hb)
  obtain ⟨f, o, hst, hrow⟩ : ∃ f o, St f o 0 w1 ∧ (0 < K.length → A = some ⟨f, 0, none⟩ ∧ ∀ W' : World, W'.heap[f]? = some o → KRow 0 K (some ⟨f, 0, none⟩) cc W') := by
    rcases hv.2 with ⟨e, h0⟩ | ⟨f, c', cur, e, h1, h2, h3⟩
    · obtain ⟨f, o, hst⟩ := hempty W w1 hW hb (List.eq_nil_of_length_eq_zero h0)
      exact ⟨f, o, hst, fun q => by omega⟩
    · injection e with e1 e2 e3
      subst e1; subst e3
      exact ⟨f, _, hstart W w1 f _ hW hb h1 h2, fun _ => ⟨rfl, fun W' hw' => ⟨hv.1, .inr ⟨f, _, cur, rfl, Nat.zero_le _, hw', h3⟩⟩⟩⟩
  clear q0 q2 hW hk HKC HSC h0 hstart hempty hv
  gi_loopw [12] (fun i wr => ∃ k : Nat, k ≤ K.length ∧ i = .int .i64 (k : Int) ∧ St f o k wr ∧ LoopK l r wr) (fun i wr => K.length - (intOf i).toNat)
  case atStart => exact ⟨0, by omega, rfl, hst, HK1.out⟩
  case round =>
    clear hst HK1 hb
    obtain ⟨k, hk4, rfl, hS, hLk⟩ := hrel
    have HS := Lib.hid hS; have HL := Lib.hid hLk; clear hS hLk
    by_cases hlt : k < K.length
    · have hkl : decide ((k : Int) < (K.length : Int)) = true := by simp; omega
      have hk0 : (0 : Int) ≤ (k : Int) := by omega
      obtain ⟨e, he⟩ : ∃ e, K[k]? = some e := ⟨K[k], List.getElem?_eq_getElem hlt⟩
      obtain ⟨rfl, hro⟩ := hrow (by omega)
      obtain ⟨hfo, hbx, m2, es2, clk2, c2, L2, j2, x2, hT2, hj2, rfl⟩ := hlook f o k e wr HS.out he
      have c0 := krow_cell (hro wr hfo) he
      have d0 := (cell_of_box hbx).1
      have d2 := (cell_of_block (k := 2) hT2.tab rfl).1
      have hlk := hT2.look_some hj2
      obtain ⟨fn, tmps, assign, body, hy, hRn⟩ := hY f o k x2 wr he HS.out HL.out ⟨m2, es2, clk2, c2, L2, j2, hT2, hj2⟩
      clear hbx hT2 hj2 he hro hrow hfo
      have HRN := Lib.hid (hRn.mono (R' := fun x W' => ∃ b, x = .returned (.bool b) ∧ YP (St f o (k + 1)) Xx l r b W') (fun x W' hx => by
        rcases hx with ⟨q1, q2, q3⟩ | ⟨q1, q2⟩
        · exact ⟨true, q1, .inl ⟨rfl, q2, q3⟩⟩
        · exact ⟨false, q1, .inr ⟨rfl, q2⟩⟩))
      clear hRn
      gi_wp2_with (refine HRN.out.mono ?_; rintro x W' ⟨b, rfl, hx⟩)
      all_goals rcases hx with ⟨rfl, hs, hl⟩ | ⟨rfl, c, hx, hl⟩
      all_goals first
        | (rename_i hh; exact absurd hh (by decide))
        | (refine ⟨⟨k + 1, by omega, by go_num, hs, hl⟩, ?_⟩; simp [intOf]; omega)
        | (refine bodyPost_ret (results_none rfl _ _ _) rfl ?_; exact ⟨⟨_, rfl⟩, .inr ⟨c, hx, hl⟩⟩)
        | (gi_wp2; refine bodyPost_ret (results_none rfl _ _ _) rfl ?_; exact ⟨⟨_, rfl⟩, .inr ⟨c, hx, hl⟩⟩)
    · obtain rfl : k = K.length := by omega
      have hkl : decide ((K.length : Int) < (K.length : Int)) = false := by simp
      gi_wp2
      go_end0
      exact ⟨⟨_, rfl⟩, .inl ⟨⟨f, o, HS.out⟩, HL.out⟩⟩
end Go.Proofs.YtmgjcjacoegocaaDoor.Ar
