/-
  The law ReassemblyExpiryMatchesReference.
-/
import Derived.Test.YtmeldgnjgogacaaReR7
import Derived.Test.YtmeldgnjgogacaaReBound
namespace Go.Proofs.Ytmeldgnjgogacaa.Re
set_option maxRecDepth 100000
open Go.RowKit Go.Proofs.Ytmeldgnjgogacaa.Wire
open Go.Proofs.Ytmeldgnjgogacaa.Ip (Pk vlenB VLen)

/-- what Tick tells of one datagram -/
def tl (F : Pk) (has al old : Bool) : List Pk := if (al && old && has) = true then [F] else []
def a1 (p : Pk) (bg : Int) (al : Bool) : List (Ky × Hf) := if al = true then [(keyOf p, storeF (newF bg) p)] else []
def F0 (p : Pk) : Pk := if p.off = 0 then p else pk0
def oldN (bg n : Int) : Bool := decide (bg ≤ n ∧ 30 ≤ n - bg)
theorem tl_len (F : Pk) (has al old : Bool) : (tl F has al old).length ≤ 1 := by unfold tl; split <;> simp
theorem a1_len (p : Pk) (bg : Int) (al : Bool) : (a1 p bg al).length ≤ 1 := by unfold a1; split <;> simp
theorem old1 (p : Pk) (bg n : Int) : oldB n (storeF (newF bg) p) = oldN bg n := by
  unfold oldB oldN
  rw [storeF_start]; rfl
theorem told1 (p : Pk) (bg n : Int) (al : Bool) : toldA n (a1 p bg al) = tl (F0 p) (decide (p.off = 0)) al (oldN bg n) := by
  unfold a1 toldA tl
  cases al with
  | false => rfl
  | true =>
    have h := storeF_first (newF bg) p rfl
    rw [if_pos rfl]
    by_cases h0 : p.off = 0
    · have hF : F0 p = p := by unfold F0; rw [if_pos h0]
      have hs : (storeF (newF bg) p).started = true := by rw [h.1]; exact decide_eq_true h0
      simp only [List.filter_cons, List.filter_nil, old1, hs, Bool.and_true, Bool.true_and, decide_eq_true h0, hF]
      cases oldN bg n with
      | false => rfl
      | true => simp [h.2 h0]
    · have hs : (storeF (newF bg) p).started = false := by rw [h.1]; exact decide_eq_false h0
      simp only [List.filter_cons, List.filter_nil, old1, hs, Bool.and_false, decide_eq_false h0]
      rfl
theorem keep1 (p : Pk) (bg n : Int) (al : Bool) : keepA n (a1 p bg al) = a1 p bg (al && !oldN bg n) := by
  unfold a1 keepA
  cases al with
  | false => rfl
  | true =>
    rw [if_pos rfl]
    simp only [List.filter_cons, List.filter_nil, old1, Bool.true_and]
/-- both tables -/
structure S10 (w : World) (lo T U : Nat) (p : Pk) (bg : Int) (a b : Bool) (W : World) : Prop where
  one : OneT w T (a1 p bg a) (fun q => q = U ∨ lo ≤ q) W
  yes : b = true → ROne lo U p bg (F0 p) (decide (p.off = 0)) (marks p.off.toNat p.s.size) W
  no : b = false → RNone U W
  ul : w.heap.size ≤ U ∧ U < lo ∧ lo ≤ W.heap.size
section
variable {w W W' : World} {lo T U : Nat} {p : Pk} {bg n : Int} {a b : Bool}
theorem S10.below (h : S10 w lo T U p bg a b W) (hb : Below W.heap.size W W') : S10 w lo T U p bg a b W' :=
  ⟨h.one.below hb, fun e => (h.yes e).below hb, fun e => bblock hb (h.no e), ⟨h.ul.1, h.ul.2.1, Nat.le_trans h.ul.2.2 hb.size⟩⟩
theorem S10.t (h : S10 w lo T U p bg a b W) (hn : In64 n) :
    Calls Try.prog 19 #[.pointer (some ⟨T, 0, none⟩), .int .i64 n] W fun x w' => (∃ B c, x = .returned (.slice B (tl (F0 p) (decide (p.off = 0)) a (oldN bg n)).length c) ∧ PRow w' W.heap.size B c (tl (F0 p) (decide (p.off = 0)) a (oldN bg n))) ∧ S10 w lo T U p bg (a && !oldN bg n) b w' ∧ ∀ k, (k = U ∨ lo ≤ k) → k < W.heap.size → w'.heap[k]? = W.heap[k]? := by
  refine (h.one.tick n _ _ (told1 p bg n a) rfl _ (keep1 p bg n a) (by have := a1_len p bg a; omega) hn).mono ?_
  rintro x w' ⟨h1, h2, h3, h4⟩
  have hU : U < W.heap.size := by have := h.ul; omega
  exact ⟨h1, ⟨h2.more (fun q hq => .inl (.inl hq)), fun e => (h.yes e).kept h4, fun e => (h4 U (.inl rfl) hU).trans (h.no e), ⟨h.ul.1, h.ul.2.1, Nat.le_trans h.ul.2.2 h3⟩⟩, h4⟩
theorem S10.grown (h : S10 w lo T U p bg a b W) {b' : Bool} (hg : W.grownBy W' (some U)) (h1 : b' = true → ROne lo U p bg (F0 p) (decide (p.off = 0)) (marks p.off.toNat p.s.size) W') (h2 : b' = false → RNone U W') : S10 w lo T U p bg a b' W' :=
  ⟨h.one.grown hg (fun k e => by cases e; exact ⟨.inl rfl, h.ul.1⟩), h1, h2, ⟨h.ul.1, h.ul.2.1, Nat.le_trans h.ul.2.2 hg.size⟩⟩
theorem S10.u (h : S10 w lo T U p bg a b W) (hn : In64 n) (hbg : In64 bg) :
    Calls Try.prog 20 #[.pointer (some ⟨U, 0, none⟩), .int .i64 n] W fun x w' => (∃ B c, x = .returned (.slice B (tl (F0 p) (decide (p.off = 0)) b (oldN bg n)).length c) ∧ PRow w' W.heap.size B c (tl (F0 p) (decide (p.off = 0)) b (oldN bg n))) ∧ S10 w lo T U p bg a (b && !oldN bg n) w' ∧ W.grownBy w' (some U) := by
  cases b with
  | false =>
    refine (rtick_none U n W (h.no rfl)).mono ?_
    rintro x w' ⟨rfl, h2, h3⟩
    exact ⟨⟨none, 0, rfl, PRow.nil _ _⟩, h.grown h3 (fun e => by cases e) (fun _ => h2), h3⟩
  | true =>
    cases ho : oldN bg n with
    | false =>
      refine (rtick_keep lo U p bg _ _ _ n W (h.yes rfl) hn hbg ho).mono ?_
      rintro x w' ⟨rfl, h2, h3⟩
      exact ⟨⟨none, 0, rfl, PRow.nil _ _⟩, h.grown h3 (fun _ => h2) (fun e => by cases e), h3⟩
    | true =>
      by_cases h0 : p.off = 0
      · refine (rtick_told lo U p bg _ _ _ n W (h.yes rfl) hn hbg ho (decide_eq_true h0)).mono ?_
        rintro x w' ⟨⟨B, c, rfl, hr⟩, h2, h3⟩
        have e : tl (F0 p) (decide (p.off = 0)) true true = [F0 p] := by unfold tl; rw [decide_eq_true h0]; rfl
        rw [e]
        exact ⟨⟨B, c, rfl, hr⟩, h.grown h3 (fun e => by cases e) (fun _ => h2), h3⟩
      · refine (rtick_drop lo U p bg _ _ _ n W (h.yes rfl) hn hbg ho (decide_eq_false h0)).mono ?_
        rintro x w' ⟨rfl, h2, h3⟩
        have e : tl (F0 p) (decide (p.off = 0)) true true = [] := by unfold tl; rw [decide_eq_false h0]; rfl
        rw [e]
        exact ⟨⟨none, 0, rfl, PRow.nil _ _⟩, h.grown h3 (fun e => by cases e) (fun _ => h2), h3⟩
theorem S10.sz (h : S10 w lo T U p bg a a W) (hon : p.off.toNat + p.s.size ≤ 4000) :
    Calls Try.prog 21 #[.pointer (some ⟨T, 0, none⟩), .pointer (some ⟨U, 0, none⟩)] W fun x w' => x = .returned (.bool true) ∧ Below W.heap.size W w' := by
  have H := Lib.hid h
  clear h
  cases a with
  | false =>
    go_enter Try.func21, Try.ntmps21
    go_wp2_with fail
    refine (H.out.one.sizes 0 0 rfl rfl (by omega)).mono ?_
    rintro x w1 ⟨rfl, hb1⟩
    have H1 := Lib.hid (H.out.below hb1); have HB1 := Lib.hid hb1; clear hb1
    go_wp2_with fail
    refine (rsizes_none U w1 (H1.out.no rfl)).mono ?_
    rintro x w2 ⟨rfl, hb2⟩
    have HB2 := Lib.hid (below_call HB1.out hb2); clear hb2
    go_wp2_with fail
    go_ret
    exact ⟨rfl, HB2.out⟩
  | true =>
    have HS : Hid (sumA (a1 p bg true) = (p.s.size : Int)) := Lib.hid (by
      unfold a1 sumA
      simp [storeF_cnt])
    obtain ⟨z, hz⟩ : ∃ z, p.s.size = z := ⟨_, rfl⟩
    rw [hz] at HS
    have HZ := Lib.hid hz
    have HON := Lib.hid hon
    clear hz hon
    go_enter Try.func21, Try.ntmps21
    go_wp2_with fail
    refine (H.out.one.sizes 1 (z : Int) rfl HS.out (by omega)).mono ?_
    rintro x w1 ⟨rfl, hb1⟩
    have H1 := Lib.hid (H.out.below hb1); have HB1 := Lib.hid hb1; clear hb1
    go_wp2_with fail
    refine (rsizes_one lo U p bg _ _ p.off.toNat p.s.size w1 (H1.out.yes rfl) HON.out).mono ?_
    rintro x w2 ⟨rfl, hb2⟩
    rw [HZ.out]
    have HB2 := Lib.hid (below_call HB1.out hb2); clear hb2
    go_wp2_with fail
    go_ret
    exact ⟨rfl, HB2.out⟩
end
end Go.Proofs.Ytmeldgnjgogacaa.Re
