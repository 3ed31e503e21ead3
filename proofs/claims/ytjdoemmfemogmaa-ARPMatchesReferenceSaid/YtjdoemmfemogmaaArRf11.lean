/-
  The reference's Tick and New.
-/
import Derived.Test.YtjdoemmfemogmaaArRf10
import Derived.Test.YtjdoemmfemogmaaArTick
namespace Go.Proofs.Ytjdoemmfemogmaa.Ar
set_option maxRecDepth 100000
open Go.RowKit Go.Proofs.Ytjdoemmfemogmaa.Wire

/-- the state in the middle of Tick: requests, lost packets, entries kept -/
structure TkR (w : World) (lo : Nat) (L : List Re) (A1 : Option Addr) (c1 : Nat) (A2 : Option Addr) (c2 : Nat) (A3 : Option Addr) (c3 : Nat) (lm : List Am) (lh : List Hp) (L3 : List Re) (W : World) : Prop where
  m : MRow W w.heap.size A1 c1 lm
  h : HRow W w.heap.size A2 c2 lh
  l : EnRow W w.heap.size A3 c3 L3
  ok : ∀ e ∈ L3, e.ok w lo ∧ ∃ e0 ∈ L, e.A = e0.A
  d12 : ∀ q, BK A1 q → ¬ BK A2 q
  d13 : ∀ q, BK A1 q → ¬ BK A3 q
  d23 : ∀ q, BK A2 q → ¬ BK A3 q
  bel : Below w.heap.size w W
section
variable {w W W' W1 : World} {lo T : Nat} {c : Tc} {D : Option Addr} {d : Nat} {L : List Re} {A1 A2 A3 : Option Addr} {c1 c2 c3 : Nat} {lm : List Am} {lh : List Hp} {L3 : List Re} {now : Int}
theorem TkR.below (h : TkR w lo L A1 c1 A2 c2 A3 c3 lm lh L3 W) (hb : Below W.heap.size W W') : TkR w lo L A1 c1 A2 c2 A3 c3 lm lh L3 W' := ⟨h.m.below hb, h.h.below hb, h.l.below hb, h.ok, h.d12, h.d13, h.d23, below_call h.bel hb⟩
theorem ob_not {A B : Option Addr} {n c : Nat} (hd : ∀ q, BK A q → ¬ BK B q) {q : Nat} (hq : BK A q) : some q ≠ Value.ownBlock (.slice B n c) := fun e => hd q hq (ob_bk e.symm)
theorem TkR.appM (h : TkR w lo L A1 c1 A2 c2 A3 c3 lm lh L3 W) {A' : Option Addr} {c' n : Nat} {l' : List Am} (hr : MRow W1 w.heap.size A' c' l') (hg : W.grownBy W1 (Value.ownBlock (.slice A1 n c1))) (ha : ∀ q, BK A' q → BK A1 q ∨ W.heap.size ≤ q) : TkR w lo L A' c' A2 c2 A3 c3 l' lh L3 W1 :=
  ⟨hr, h.h.kept (fun a e => hg.block _ (h.h.bk e).2 (ob_not (fun q hq hq1 => h.d12 q hq1 hq) ⟨a, e, rfl⟩)), h.l.kept (fun a e => hg.block _ (h.l.bk e).2 (ob_not (fun q hq hq1 => h.d13 q hq1 hq) ⟨a, e, rfl⟩)), h.ok,
    fun q hq hq2 => (ha q hq).elim (fun r => h.d12 q r hq2) (fun r => by have := (h.h.bk' hq2).2; omega), fun q hq hq2 => (ha q hq).elim (fun r => h.d13 q r hq2) (fun r => by have := (h.l.bk' hq2).2; omega), h.d23, h.bel.grown hg h.bel.size (fun q e => (h.m.bk' (ob_bk e)).1)⟩
theorem TkR.appH (h : TkR w lo L A1 c1 A2 c2 A3 c3 lm lh L3 W) {A' : Option Addr} {c' n : Nat} {l' : List Hp} (hr : HRow W1 w.heap.size A' c' l') (hg : W.grownBy W1 (Value.ownBlock (.slice A2 n c2))) (ha : ∀ q, BK A' q → BK A2 q ∨ W.heap.size ≤ q) : TkR w lo L A1 c1 A' c' A3 c3 lm l' L3 W1 :=
  ⟨h.m.kept (fun a e => hg.block _ (h.m.bk e).2 (ob_not h.d12 ⟨a, e, rfl⟩)), hr, h.l.kept (fun a e => hg.block _ (h.l.bk e).2 (ob_not (fun q hq hq1 => h.d23 q hq1 hq) ⟨a, e, rfl⟩)), h.ok,
    fun q hq hq2 => (ha q hq2).elim (fun r => h.d12 q hq r) (fun r => by have := (h.m.bk' hq).2; omega), h.d13, fun q hq hq2 => (ha q hq).elim (fun r => h.d23 q r hq2) (fun r => by have := (h.l.bk' hq2).2; omega), h.bel.grown hg h.bel.size (fun q e => (h.h.bk' (ob_bk e)).1)⟩
theorem TkR.appE (h : TkR w lo L A1 c1 A2 c2 A3 c3 lm lh L3 W) {A' : Option Addr} {c' n : Nat} {e' : Re} (hr : EnRow W1 w.heap.size A' c' (L3 ++ [e'])) (hg : W.grownBy W1 (Value.ownBlock (.slice A3 n c3))) (ha : ∀ q, BK A' q → BK A3 q ∨ W.heap.size ≤ q) (hok : e'.ok w lo ∧ ∃ e0 ∈ L, e'.A = e0.A) : TkR w lo L A1 c1 A2 c2 A' c' lm lh (L3 ++ [e']) W1 :=
  ⟨h.m.kept (fun a e => hg.block _ (h.m.bk e).2 (ob_not h.d13 ⟨a, e, rfl⟩)), h.h.kept (fun a e => hg.block _ (h.h.bk e).2 (ob_not h.d23 ⟨a, e, rfl⟩)), hr,
    fun e he => by
      rcases List.mem_append.1 he with he | he
      · exact h.ok e he
      · simp at he; subst he; exact hok,
    h.d12, fun q hq hq2 => (ha q hq2).elim (fun r => h.d13 q hq r) (fun r => by have := (h.m.bk' hq).2; omega), fun q hq hq2 => (ha q hq2).elim (fun r => h.d23 q hq r) (fun r => by have := (h.h.bk' hq).2; omega), h.bel.grown hg h.bel.size (fun q e => (h.l.bk' (ob_bk e)).1)⟩
theorem TkR.set (h : TkR w lo L A1 c1 A2 c2 A3 c3 lm lh L3 W) {x : Nat} (hx : ¬ BK A1 x ∧ ¬ BK A2 x ∧ ¬ BK A3 x) (hw : w.heap.size ≤ x) (j : Nat) (u : Value) : TkR w lo L A1 c1 A2 c2 A3 c3 lm lh L3 (W.setCell ⟨x, j, none⟩ u) :=
  ⟨h.m.kept (fun a e => Below.heap_setCell _ _ _ _ (by show a.block ≠ x; rintro rfl; exact hx.1 ⟨a, e, rfl⟩)), h.h.kept (fun a e => Below.heap_setCell _ _ _ _ (by show a.block ≠ x; rintro rfl; exact hx.2.1 ⟨a, e, rfl⟩)), h.l.kept (fun a e => Below.heap_setCell _ _ _ _ (by show a.block ≠ x; rintro rfl; exact hx.2.2 ⟨a, e, rfl⟩)), h.ok, h.d12, h.d13, h.d23, h.bel.setCell (p := ⟨x, j, none⟩) hw u⟩
def TkI (w : World) (lo : Nat) (L : List Re) (c : Tc) (now : Int) (k : Nat) (s6 s7 s8 : Value) (W : World) : Prop :=
  ∃ (A1 : Option Addr) (c1 : Nat) (A2 : Option Addr) (c2 : Nat) (A3 : Option Addr) (c3 : Nat) (lm : List Am) (lh : List Hp) (L3 : List Re), s6 = .slice A1 lm.length c1 ∧ s7 = .slice A2 lh.length c2 ∧ s8 = .slice A3 L3.length c3 ∧ TkR w lo L A1 c1 A2 c2 A3 c3 lm lh L3 W ∧
    lm = ((absR L).take k).flatMap (tickM c now) ∧ lh = ((absR L).take k).flatMap (tickH now) ∧ absR L3 = ((absR L).take k).filterMap (tick1 now)
theorem absR_app (L L' : List Re) : absR (L ++ L') = absR L ++ absR L' := by unfold absR; rw [List.map_append]
theorem TkI.next {k : Nat} {x : Int × Ev} {s6 s7 s8 : Value} (hx : (absR L)[k]? = some x) (h : TkR w lo L A1 c1 A2 c2 A3 c3 lm lh L3 W) (em : lm = ((absR L).take k).flatMap (tickM c now) ++ tickM c now x) (eh : lh = ((absR L).take k).flatMap (tickH now) ++ tickH now x) (el : absR L3 = ((absR L).take k).filterMap (tick1 now) ++ (tick1 now x).toList) (h6 : s6 = .slice A1 lm.length c1) (h7 : s7 = .slice A2 lh.length c2) (h8 : s8 = .slice A3 L3.length c3) : TkI w lo L c now (k + 1) s6 s7 s8 W := by
  refine ⟨A1, c1, A2, c2, A3, c3, lm, lh, L3, h6, h7, h8, h, ?_, ?_, ?_⟩
  · rw [em, List.take_add_one, hx, List.flatMap_append]; simp
  · rw [eh, List.take_add_one, hx, List.flatMap_append]; simp
  · rw [el, List.take_add_one, hx, List.filterMap_append]
    cases ht : tick1 now x <;> simp [ht]
theorem TkI.start : TkI w lo L c now 0 (.slice none 0 0) (.slice none 0 0) (.slice none 0 0) w :=
  ⟨none, 0, none, 0, none, 0, [], [], [], rfl, rfl, rfl, ⟨SRow.nil _ _ _ _ _, SRow.nil _ _ _ _ _, SRow.nil _ _ _ _ _, fun e he => by simp at he, fun q hq => absurd hq (bk_none q), fun q hq => absurd hq (bk_none q), fun q hq => absurd hq (bk_none q), Below.refl _ _⟩, by simp, by simp, by simp [absR]⟩
theorem tickH_le {L : List Re} (hev : ∀ e ∈ L, EvI now e.v) (k : Nat) : ∀ x ∈ (absR L).take k, (tickH now x).length ≤ 4 := by
  intro x hx
  have hm := (List.take_sublist _ _).subset hx
  unfold absR at hm
  obtain ⟨e, he, rfl⟩ := List.mem_map.1 hm
  have := hev e he
  unfold tickH
  dsimp only
  cases hv : e.v with
  | inc held sent first last =>
    rw [hv] at this
    unfold EvI at this
    dsimp only
    split
    · rw [List.length_map]; omega
    · simp
  | res mac since used => simp
theorem TkI.bounds {k : Nat} (hL : L.length ≤ 16) (hev : ∀ e ∈ L, EvI now e.v) (em : lm = ((absR L).take k).flatMap (tickM c now)) (eh : lh = ((absR L).take k).flatMap (tickH now)) (el : absR L3 = ((absR L).take k).filterMap (tick1 now)) : lm.length ≤ 16 ∧ lh.length ≤ 64 ∧ L3.length ≤ 16 := by
  have hl : ((absR L).take k).length ≤ 16 := by rw [List.length_take]; unfold absR; simp; omega
  have h1 := flat_le (tickM c now) 1 ((absR L).take k) (fun x _ => outM_le c now x)
  have h2 := flat_le (tickH now) 4 ((absR L).take k) (tickH_le hev k)
  have h3 := List.length_filterMap_le (tick1 now) ((absR L).take k)
  rw [← em] at h1; rw [← eh] at h2; rw [← el] at h3
  have h4 : (absR L3).length = L3.length := by unfold absR; simp
  omega
set_option maxHeartbeats 8000000 in
theorem tick_ref (now : Int) (w : World) (h : RTab w lo T c D d L) (hL : L.length ≤ 16) (hev : ∀ e ∈ L, EvI now e.v) (h1 : 0 ≤ now ∧ now ≤ 1000000) :
    Calls Try.prog 32 #[.pointer (some ⟨T, 0, none⟩), .int .i64 now] w fun x w' => ∃ (B : Option Addr) (k : Nat) (F : Option Addr) (n : Nat) (D' : Option Addr) (d' : Nat) (L' : List Re), x = .returned (.tuple #[.slice B ((absR L).flatMap (tickM c now)).length k, .slice F ((absR L).flatMap (tickH now)).length n]) ∧
      MRow w' w.heap.size B k ((absR L).flatMap (tickM c now)) ∧ HRow w' w.heap.size F n ((absR L).flatMap (tickH now)) ∧ RTab w' lo T c D' d' L' ∧ absR L' = (absR L).filterMap (tick1 now) ∧ Chg (ROwn T D L) w w' ∧ ∀ q, ROwn T D' L' q → ROwn T D L q ∨ w.heap.size ≤ q := by
  obtain ⟨iE, hiiE, hz0iE, hz1iE, hz2iE⟩ := info_parts infoEn
  have HIiE := Lib.hid hiiE; have HZ0iE := Lib.hid hz0iE; have HZ1iE := Lib.hid hz1iE; have HZ2iE := Lib.hid hz2iE
  clear hiiE hz0iE hz1iE hz2iE
  obtain ⟨iM, hiiM, hz0iM, hz1iM, hz2iM⟩ := info_parts infoAm
  have HIiM := Lib.hid hiiM; have HZ0iM := Lib.hid hz0iM; have HZ1iM := Lib.hid hz1iM; have HZ2iM := Lib.hid hz2iM
  clear hiiM hz0iM hz1iM hz2iM
  obtain ⟨iH, hiiH, hz0iH, hz1iH, hz2iH⟩ := info_parts infoHp
  have HIiH := Lib.hid hiiH; have HZ0iH := Lib.hid hz0iH; have HZ1iH := Lib.hid hz1iH; have HZ2iH := Lib.hid hz2iH
  clear hiiH hz0iH hz1iH hz2iH
  have HT := Lib.hid h; have HEV := Lib.hid hev
  have hTl := (h.lt (.inl rfl)).2
  have hTlo := h.lo
  obtain ⟨n, hn⟩ : ∃ n, L.length = n := ⟨_, rfl⟩
  have HN := Lib.hid hn
  have HL16 := Lib.hid hL
  rw [hn] at hL
  clear h hev hn
  go_enter Try.func32, Try.ntmps32
  go_wp2_with fail
  go_loopw [6, 7, 8, 9] (fun s6 s7 s8 iv wr => ∃ k : Nat, k ≤ n ∧ iv = .int .i64 (k : Int) ∧ TkI w lo L c now k s6 s7 s8 wr) (fun _ _ _ iv _ => n - (Go.RowKit.intOf iv).toNat)
  case atStart => exact ⟨0, by omega, rfl, TkI.start⟩
  case round =>
    obtain ⟨k, hk, rfl, A1, c1, A2, c2, A3, c3, lm, lh, L3, rfl, rfl, rfl, hK, em, eh, el⟩ := hrel
    obtain ⟨hb1, hb2, hb3⟩ := TkI.bounds HL16.out HEV.out em eh el
    have HK := Lib.hid hK; have EM := Lib.hid em; have EH := Lib.hid eh; have EL := Lib.hid el
    clear hK em eh el
    obtain ⟨wx, rfl⟩ : ∃ wo : World, wo = wr := ⟨_, rfl⟩
    have HTX := Lib.hid (HT.out.below HK.out.bel)
    obtain ⟨t0, -, t2, -⟩ := cellsR HTX.out
    rw [HN.out] at t2
    have hTx := (HTX.out.lt (.inl rfl)).2
    by_cases hlt : k < n
    · have d1 : decide ((k : Int) < (n : Int)) = true := decide_eq_true (by omega)
      have k0 : (0 : Int) ≤ (k : Int) := by omega
      have k1 : (k : Int) < (n : Int) := by omega
      obtain ⟨e, he⟩ : ∃ e, L[k]? = some e := ⟨_, List.getElem?_eq_getElem (by rw [HN.out]; exact hlt)⟩
      obtain ⟨g, rfl, hgl, hgo⟩ := HTX.out.has he
      have hmem := List.mem_of_getElem? he
      have hevi := HEV.out e hmem
      have hok0 := HT.out.ok e hmem
      have hax : (absR L)[k]? = some (e.k, e.v) := by unfold absR; rw [List.getElem?_map, he]; rfl
      have HAX := Lib.hid hax
      have HMEM := Lib.hid hmem
      obtain ⟨ke, v, A, cx⟩ := e
      dsimp only at hevi HAX
      cases v with
      | res mac since used =>
        obtain ⟨k0', k1', k2', k3', k4', k5', k6', k7', k8'⟩ := HTX.out.nine rfl he rfl
        unfold EvI at hevi
        have hw : IntKind.i64.wrap (now - since) = now - since := IntWalk.i64_in _ (by omega)
        have HOK := Lib.hid (⟨hok0, _, HMEM.out, rfl⟩ : Re.ok w lo (⟨ke, .res mac since used, A, cx⟩ : Re) ∧ ∃ e0 ∈ L, ((⟨ke, .res mac since used, A, cx⟩ : Re)).A = e0.A)
        have HTM : Hid (tickM c now (ke, .res mac since used) = []) := Lib.hid rfl
        have HTH : Hid (tickH now (ke, .res mac since used) = []) := Lib.hid rfl
        have hE : Hid ([(⟨ke, .res mac since used, A, cx⟩ : Re)].flatMap Re.cells = [.int .i64 ke, .bool true, .int .i64 mac, .int .i64 since, .int .i64 used, .slice none 0 0, .int .i64 0, .int .i64 0, .int .i64 0]) := Lib.hid rfl
        clear he hmem hok0 hax
        have HX2 := Lib.hid (alloc_new wx (.cells #[.int .i64 ke, .bool true, .int .i64 mac, .int .i64 since, .int .i64 used, .slice none 0 0, .int .i64 0, .int .i64 0, .int .i64 0] 111))
        have HK2 := Lib.hid (HK.out.below ((Below.refl wx.heap.size wx).alloc (Nat.le_refl _) (.cells #[.int .i64 ke, .bool true, .int .i64 mac, .int .i64 since, .int .i64 used, .slice none 0 0, .int .i64 0, .int .i64 0, .int .i64 0] 111)))
        go_upto_region 8 with fail
        obtain ⟨xb, hxb⟩ : ∃ xb, wx.heap.size = xb := ⟨_, rfl⟩
        rw [hxb] at HX2 ⊢
        have HXB := Lib.hid hxb
        clear hxb
        generalize wx.alloc (.cells #[.int .i64 ke, .bool true, .int .i64 mac, .int .i64 since, .int .i64 used, .slice none 0 0, .int .i64 0, .int .i64 0, .int .i64 0] 111) = w2 at *
        clear k0' k1' k2' k3' k4' k5' k6' k7' k8' t0 t2
        have y := fun (j : Nat) (u : Value) (h : (#[.int .i64 ke, .bool true, .int .i64 mac, .int .i64 since, .int .i64 used, .slice none 0 0, .int .i64 0, .int .i64 0, .int .i64 0] : Array Value)[j]? = some u) => cell_of_block HX2.out h
        have y0 := (y 0 _ rfl).1; have y1 := (y 1 _ rfl).1; have y2 := (y 2 _ rfl).1; have y3 := (y 3 _ rfl).1; have y4 := (y 4 _ rfl).1; have y5 := (y 5 _ rfl).1; have y6 := (y 6 _ rfl).1; have y7 := (y 7 _ rfl).1; have y8 := (y 8 _ rfl).1
        clear y
        by_cases ha6 : now - since < 600
        · have d2 : decide (now - since < 600) = true := decide_eq_true ha6
          have HT1 : Hid (tick1 now (ke, .res mac since used) = some (ke, .res mac since used)) := Lib.hid (by unfold tick1 agedB; dsimp only; rw [if_neg (by simp; omega)])
          go_wp2_with (at_builtin; (refine list_app rfl (.tmp 34) (.tmp 36) 107 rfl (HK2.out.l.below ((Below.refl w2.heap.size w2).alloc (Nat.le_refl _) (.cells #[.int .i64 ke, .bool true, .int .i64 mac, .int .i64 since, .int .i64 used, .slice none 0 0, .int .i64 0, .int .i64 0, .int .i64 0] 111))) Re.len iE _ 88 Try.underlying107 HIiE.out HZ0iE.out HZ1iE.out HZ2iE.out rfl (by decide) _ rfl _ _ _ [(⟨ke, .res mac since used, A, cx⟩ : Re)] rfl rfl rfl (fun _ => ⟨_, rfl, by rw [hE.out]; exact World.news_of_block (heap_alloc_new w2 _)⟩) (re_one _) (by unfold maxLen; omega) (by omega) (by have := HK2.out.bel.size; simp; omega) ?_; intro A3' c3' w3 ho hg ha))
          all_goals first | (exfalso; omega) | skip
          have HA := Lib.hid (TkR.appE (HK2.out.below ((Below.refl w2.heap.size w2).alloc (Nat.le_refl _) _)) ho hg ha HOK.out)
          clear ho hg ha
          go_roundw
          case rel =>
            refine ⟨k + 1, by omega, by go_num, TkI.next HAX.out HA.out ?_ ?_ ?_ rfl rfl ?_⟩
            · rw [HTM.out, List.append_nil]; exact EM.out
            · rw [HTH.out, List.append_nil]; exact EH.out
            · rw [absR_app, EL.out, HT1.out]; rfl
            · simp
          case measure => simp [Go.RowKit.intOf]; omega
        · have d2 : decide (now - since < 600) = false := decide_eq_false ha6
          have HT1 : Hid (tick1 now (ke, .res mac since used) = none) := Lib.hid (by unfold tick1 agedB; dsimp only; rw [if_pos (by simp; omega)])
          go_wp2_with fail
          all_goals first | (exfalso; omega) | skip
          go_roundw
          case rel =>
            refine ⟨k + 1, by omega, by go_num, TkI.next HAX.out HK2.out ?_ ?_ ?_ rfl rfl rfl⟩
            · rw [HTM.out, List.append_nil]; exact EM.out
            · rw [HTH.out, List.append_nil]; exact EH.out
            · rw [HT1.out]; simpa using EL.out
          case measure => simp [Go.RowKit.intOf]; omega
      | inc held sent first last =>
        obtain ⟨k0', k1', k2', k3', k4', k5', k6', k7', k8'⟩ := HTX.out.nine rfl he rfl
        unfold EvI at hevi
        have hw : IntKind.i64.wrap (now - last) = now - last := IntWalk.i64_in _ (by omega)
        have HOK := Lib.hid (⟨hok0, _, HMEM.out, rfl⟩ : Re.ok w lo (⟨ke, .inc held sent first last, A, cx⟩ : Re) ∧ ∃ e0 ∈ L, ((⟨ke, .inc held sent first last, A, cx⟩ : Re)).A = e0.A)
        have hE : Hid ([(⟨ke, .inc held sent first last, A, cx⟩ : Re)].flatMap Re.cells = [.int .i64 ke, .bool false, .int .i64 0, .int .i64 0, .int .i64 0, .slice A held.length cx, .int .i64 sent, .int .i64 first, .int .i64 last]) := Lib.hid rfl
        clear he hmem hok0 hax
        have HX2 := Lib.hid (alloc_new wx (.cells #[.int .i64 ke, .bool false, .int .i64 0, .int .i64 0, .int .i64 0, .slice A held.length cx, .int .i64 sent, .int .i64 first, .int .i64 last] 111))
        have HK2 := Lib.hid (HK.out.below ((Below.refl wx.heap.size wx).alloc (Nat.le_refl _) (.cells #[.int .i64 ke, .bool false, .int .i64 0, .int .i64 0, .int .i64 0, .slice A held.length cx, .int .i64 sent, .int .i64 first, .int .i64 last] 111)))
        go_upto_region 8 with fail
        obtain ⟨xb, hxb⟩ : ∃ xb, wx.heap.size = xb := ⟨_, rfl⟩
        rw [hxb] at HX2 ⊢
        have HXB := Lib.hid hxb
        clear hxb
        generalize wx.alloc (.cells #[.int .i64 ke, .bool false, .int .i64 0, .int .i64 0, .int .i64 0, .slice A held.length cx, .int .i64 sent, .int .i64 first, .int .i64 last] 111) = w2 at *
        clear k0' k1' k2' k3' k4' k5' k6' k7' k8' t0 t2
        have y := fun (j : Nat) (u : Value) (h : (#[.int .i64 ke, .bool false, .int .i64 0, .int .i64 0, .int .i64 0, .slice A held.length cx, .int .i64 sent, .int .i64 first, .int .i64 last] : Array Value)[j]? = some u) => cell_of_block HX2.out h
        have y0 := (y 0 _ rfl).1; have y1 := (y 1 _ rfl).1; have y2 := (y 2 _ rfl).1; have y3 := (y 3 _ rfl).1; have y4 := (y 4 _ rfl).1; have y5 := (y 5 _ rfl).1; have y6 := (y 6 _ rfl).1; have y7 := (y 7 _ rfl).1; have y8 := (y 8 _ rfl).1
        clear y
        by_cases ha1 : now - last < 10
        · have d2 : decide (now - last < 10) = true := decide_eq_true ha1
          have hag : agedB now last 10 = false := by unfold agedB; exact decide_eq_false (by omega)
          have HTM : Hid (tickM c now (ke, .inc held sent first last) = []) := Lib.hid (by unfold tickM; dsimp only; rw [hag]; simp)
          have HTH : Hid (tickH now (ke, .inc held sent first last) = []) := Lib.hid (by unfold tickH; dsimp only; rw [hag]; simp)
          have HT1 : Hid (tick1 now (ke, .inc held sent first last) = some (ke, .inc held sent first last)) := Lib.hid (by unfold tick1; dsimp only; rw [hag]; simp)
          clear hag
          go_wp2_with (at_builtin; (refine list_app rfl (.tmp 43) (.tmp 45) 107 rfl (HK2.out.l.below ((Below.refl w2.heap.size w2).alloc (Nat.le_refl _) (.cells #[.int .i64 ke, .bool false, .int .i64 0, .int .i64 0, .int .i64 0, .slice A held.length cx, .int .i64 sent, .int .i64 first, .int .i64 last] 111))) Re.len iE _ 88 Try.underlying107 HIiE.out HZ0iE.out HZ1iE.out HZ2iE.out rfl (by decide) _ rfl _ _ _ [(⟨ke, .inc held sent first last, A, cx⟩ : Re)] rfl rfl rfl (fun _ => ⟨_, rfl, by rw [hE.out]; exact World.news_of_block (heap_alloc_new w2 _)⟩) (re_one _) (by unfold maxLen; omega) (by omega) (by have := HK2.out.bel.size; simp; omega) ?_; intro A3' c3' w3 ho hg ha))
          all_goals first | (exfalso; omega) | skip
          have HA := Lib.hid (TkR.appE (HK2.out.below ((Below.refl w2.heap.size w2).alloc (Nat.le_refl _) _)) ho hg ha HOK.out)
          clear ho hg ha
          go_roundw
          case rel =>
            refine ⟨k + 1, by omega, by go_num, TkI.next HAX.out HA.out ?_ ?_ ?_ rfl rfl ?_⟩
            · rw [HTM.out, List.append_nil]; exact EM.out
            · rw [HTH.out, List.append_nil]; exact EH.out
            · rw [absR_app, EL.out, HT1.out]; rfl
            · simp
          case measure => simp [Go.RowKit.intOf]; omega
        · have d2 : decide (now - last < 10) = false := decide_eq_false ha1
          have hag : agedB now last 10 = true := by unfold agedB; exact decide_eq_true (by omega)
          by_cases h3 : sent = 3
          · have d3 : (sent == 3) = true := beq_iff_eq.2 h3
            have HTM : Hid (tickM c now (ke, .inc held sent first last) = []) := Lib.hid (by unfold tickM; dsimp only; rw [hag, if_neg (fun q => by have := q.2; omega)])
            have HTH : Hid (tickH now (ke, .inc held sent first last) = held.map (fun s => ⟨ke, 0, s⟩)) := Lib.hid (by unfold tickH; dsimp only; rw [hag, if_pos ⟨rfl, by omega⟩])
            have HT1 : Hid (tick1 now (ke, .inc held sent first last) = none) := Lib.hid (by unfold tick1; dsimp only; rw [hag, if_pos rfl, if_neg (by omega)])
            have HS3 := Lib.hid h3
            clear hag h3
            go_wp2_with fail
            all_goals first | (exfalso; omega) | skip
            refine (out_ref A cx held ke 0 w2 (ORow.kept HOK.out.1 (fun a e => HK2.out.bel.block _ (ORow.bk HOK.out.1 e).2)) (by omega)).mono ?_
            rintro x9 w5 ⟨⟨B5, n5, rfl, hrow5⟩, hb5⟩
            have HR5 := Lib.hid hrow5
            have HK5 := Lib.hid (HK2.out.below hb5)
            clear hrow5 hb5
            have hln : (held.map (fun s => (⟨ke, 0, s⟩ : Hp))).length = held.length := by simp
            have HLN := Lib.hid hln
            have HNW : Hid (0 < held.length → ∃ ad, B5 = some ad ∧ ∀ j u, ((held.map (fun s => (⟨ke, 0, s⟩ : Hp))).flatMap Hp.cells)[j]? = some u → w5.cell? (ad.add j) = some u) := Lib.hid (fun _ => ORow.lies (ORow.ofS HR5.out) (by rw [HLN.out]; omega))
            clear hln
            go_wp2_with (at_builtin; (refine list_app rfl (.tmp 50) (.tmp 55) 43 rfl HK5.out.h hpk iH _ 32 Try.underlying43 HIiH.out HZ0iH.out HZ1iH.out HZ2iH.out rfl (by decide) _ rfl _ _ _ (held.map (fun s => (⟨ke, 0, s⟩ : Hp))) rfl rfl HLN.out HNW.out (hp_one _) (by unfold maxLen; omega) (by omega) (by have := HK5.out.bel.size; simp; omega) ?_; intro A2' c2' w6 ho hg ha))
            all_goals first | (exfalso; omega) | skip
            have HA := Lib.hid (TkR.appH HK5.out ho hg ha)
            clear ho hg ha
            go_roundw
            case rel =>
              refine ⟨k + 1, by omega, by go_num, TkI.next HAX.out HA.out ?_ ?_ ?_ rfl ?_ rfl⟩
              · rw [HTM.out, List.append_nil]; exact EM.out
              · rw [HTH.out, EH.out]
              · rw [HT1.out]; simpa using EL.out
              · simp
            case measure => simp [Go.RowKit.intOf]; omega
          · have d3 : (sent == 3) = false := beq_eq_false_iff_ne.2 h3
            have h3' : sent < 3 := by omega
            have hws : IntKind.i64.wrap (sent + 1) = sent + 1 := IntWalk.i64_in _ (by omega)
            have HTM : Hid (tickM c now (ke, .inc held sent first last) = [req c ke]) := Lib.hid (by unfold tickM; dsimp only; rw [hag, if_pos ⟨rfl, h3'⟩])
            have HTH : Hid (tickH now (ke, .inc held sent first last) = []) := Lib.hid (by unfold tickH; dsimp only; rw [hag, if_neg (fun q => by have := q.2; omega)])
            have HT1 : Hid (tick1 now (ke, .inc held sent first last) = some (ke, .inc held (sent + 1) first now)) := Lib.hid (by unfold tick1; dsimp only; rw [hag, if_pos rfl, if_pos h3'])
            have HOK2 := Lib.hid (⟨HOK.out.1, _, HMEM.out, rfl⟩ : Re.ok w lo (⟨ke, .inc held (sent + 1) first now, A, cx⟩ : Re) ∧ ∃ e0 ∈ L, ((⟨ke, .inc held (sent + 1) first now, A, cx⟩ : Re)).A = e0.A)
            have hE2 : Hid ([(⟨ke, .inc held (sent + 1) first now, A, cx⟩ : Re)].flatMap Re.cells = [.int .i64 ke, .bool false, .int .i64 0, .int .i64 0, .int .i64 0, .slice A held.length cx, .int .i64 (sent + 1), .int .i64 first, .int .i64 now]) := Lib.hid rfl
            clear hag h3
            have HT2 := Lib.hid (HT.out.below HK2.out.bel)
            go_wp2_with fail
            all_goals first | (exfalso; omega) | skip
            refine (ask_ref ke w2 HT2.out).mono ?_
            rintro x9 w5 ⟨rfl, hb5⟩
            have HK5 := Lib.hid (HK2.out.below hb5)
            have HX5 := Lib.hid (bblock hb5 HX2.out)
            clear hb5 y0 y1 y2 y3 y4 y5 y6 y7 y8
            go_upto_region 16 with (at_builtin; (refine list_app rfl (.tmp 57) (.tmp 62) 28 rfl (HK5.out.m.below ((Below.refl w5.heap.size w5).alloc (Nat.le_refl _) (.cells #[.int .i64 1, .int .i64 c.own, .int .i64 c.mac, .int .i64 ke, .int .i64 0] 23))) amk iM _ 40 Try.underlying28 HIiM.out HZ0iM.out HZ1iM.out HZ2iM.out rfl (by decide) _ rfl _ _ _ [req c ke] rfl rfl rfl (fun _ => ⟨_, rfl, World.news_of_block (heap_alloc_new w5 _)⟩) (by simp [Am.cells, Value.oneCell']) (by unfold maxLen; omega) (by omega) (by have := HK5.out.bel.size; simp; omega) ?_; intro A1' c1' w6 ho hg ha))
            have hxs := HXB.out
            have hxz := HK.out.bel.size
            have hx5 := blk_lt HX5.out
            have HNX : Hid (¬ BK A1' xb ∧ ¬ BK A2 xb ∧ ¬ BK A3 xb) := Lib.hid ⟨fun hq => (ha xb hq).elim (fun r => by have := (HK.out.m.bk' r).2; omega) (fun r => by simp at r; omega), fun hq => by have := (HK.out.h.bk' hq).2; omega, fun hq => by have := (HK.out.l.bk' hq).2; omega⟩
            have HK6 := Lib.hid (TkR.appM (HK5.out.below ((Below.refl w5.heap.size w5).alloc (Nat.le_refl _) _)) ho hg ha)
            have HX6 := Lib.hid ((hg.block xb (blk_lt (block_alloc HX5.out _)) (fun e => by have := (HK.out.m.bk' (ob_bk e.symm)).2; omega)).trans (block_alloc HX5.out _))
            clear ho hg ha
            have y6 := (cell_of_block (k := 6) HX6.out rfl).1
            have z6 := (cell_of_block (k := 6) HX6.out rfl).2
            have y8 := (cell_of_block (k := 8) HX6.out rfl).1
            have z8 := (cell_of_block (k := 8) HX6.out rfl).2
            have HK7 := Lib.hid ((HK6.out.set HNX.out (by omega) 6 (.int .i64 (sent + 1))).set HNX.out (by omega) 8 (.int .i64 now))
            have HX7 := Lib.hid (cells_eq (b := #[.int .i64 ke, .bool false, .int .i64 0, .int .i64 0, .int .i64 0, .slice A held.length cx, .int .i64 (sent + 1), .int .i64 first, .int .i64 now]) (block_setCell (k := 8) (v := .int .i64 now) (block_setCell (k := 6) (v := .int .i64 (sent + 1)) HX6.out)) (by simp))
            go_upto_region 18 with fail
            generalize (w6.setCell ⟨xb, 6, none⟩ (.int .i64 (sent + 1))).setCell ⟨xb, 8, none⟩ (.int .i64 now) = w7 at *
            clear y6 z6 y8 z8
            have y := fun (j : Nat) (u : Value) (h : (#[.int .i64 ke, .bool false, .int .i64 0, .int .i64 0, .int .i64 0, .slice A held.length cx, .int .i64 (sent + 1), .int .i64 first, .int .i64 now] : Array Value)[j]? = some u) => cell_of_block HX7.out h
            have y0 := (y 0 _ rfl).1; have y1 := (y 1 _ rfl).1; have y2 := (y 2 _ rfl).1; have y3 := (y 3 _ rfl).1; have y4 := (y 4 _ rfl).1; have y5 := (y 5 _ rfl).1; have y6 := (y 6 _ rfl).1; have y7 := (y 7 _ rfl).1; have y8 := (y 8 _ rfl).1
            clear y
            have hz7 := HK7.out.bel.size
            go_wp2_with (at_builtin; (refine list_app rfl (.tmp 70) (.tmp 72) 107 rfl (HK7.out.l.below ((Below.refl w7.heap.size w7).alloc (Nat.le_refl _) (.cells #[.int .i64 ke, .bool false, .int .i64 0, .int .i64 0, .int .i64 0, .slice A held.length cx, .int .i64 (sent + 1), .int .i64 first, .int .i64 now] 111))) Re.len iE _ 88 Try.underlying107 HIiE.out HZ0iE.out HZ1iE.out HZ2iE.out rfl (by decide) _ rfl _ _ _ [(⟨ke, .inc held (sent + 1) first now, A, cx⟩ : Re)] rfl rfl rfl (fun _ => ⟨_, rfl, by rw [hE2.out]; exact World.news_of_block (heap_alloc_new w7 _)⟩) (re_one _) (by unfold maxLen; omega) (by omega) (by have := HK7.out.bel.size; simp; omega) ?_; intro A3' c3' w8 ho hg ha))
            all_goals first | (exfalso; omega) | skip
            have HA := Lib.hid (TkR.appE (HK7.out.below ((Below.refl w7.heap.size w7).alloc (Nat.le_refl _) _)) ho hg ha HOK2.out)
            clear ho hg ha
            go_roundw
            case rel =>
              refine ⟨k + 1, by omega, by go_num, TkI.next HAX.out HA.out ?_ ?_ ?_ ?_ rfl ?_⟩
              · rw [HTM.out, EM.out]
              · rw [HTH.out, List.append_nil]; exact EH.out
              · rw [absR_app, EL.out, HT1.out]; rfl
              · simp
              · simp
            case measure => simp [Go.RowKit.intOf]; omega
    · obtain rfl : k = n := by omega
      have d1 : decide ((k : Int) < (k : Int)) = false := by simp
      have z2 := (cell_of_block (k := 2) HTX.out.tab rfl).2
      go_wp2_with fail
      all_goals first | (exfalso; omega) | skip
      go_ret2
      have htk : (absR L).take k = absR L := List.take_of_length_le (by rw [← HN.out]; unfold absR; simp)
      have em := EM.out; have eh := EH.out; have el := EL.out
      rw [htk] at em eh el
      subst em eh
      have hA3 : ∀ q, BK A3 q → w.heap.size ≤ q := fun q hq => (HK.out.l.bk' hq).1
      refine ⟨A1, c1, A2, c2, A3, c3, L3, rfl, HK.out.m.kept (fun a e => Below.heap_setCell _ _ _ _ (by have := (HK.out.m.bk e).1; show a.block ≠ T; omega)), HK.out.h.kept (fun a e => Below.heap_setCell _ _ _ _ (by have := (HK.out.h.bk e).1; show a.block ≠ T; omega)), ⟨?_, ?_, fun e he => ?_, hTlo, fun q hq => by have := hA3 q hq; omega, fun e he q hq => ?_⟩, el, Chg.setCell (p := ⟨T, 2, none⟩) (Chg.of_below HK.out.bel) (.inl (.inl rfl)) _, fun q hq => ?_⟩
      · exact cells_eq (block_setCell (k := 2) HTX.out.tab) (by simp)
      · exact (SRow.mono HK.out.l (by omega)).kept (fun a e => Below.heap_setCell _ _ _ _ (by have := hA3 a.block ⟨a, e, rfl⟩; show a.block ≠ T; omega))
      · obtain ⟨hoke, e0, he0, hA0⟩ := HK.out.ok e he
        exact Re.ok_kept hoke (fun q hq => (Below.heap_setCell _ _ _ _ (by rw [hA0] at hq; exact (HT.out.ne2 e0 he0 q hq).1)).trans (HK.out.bel.block q (Re.ok_lt hoke hq).2))
      · obtain ⟨hoke, e0, he0, hA0⟩ := HK.out.ok e he
        have := (Re.ok_lt hoke hq).2
        rw [hA0] at hq
        exact ⟨(HT.out.ne2 e0 he0 q hq).1, fun r => by have := hA3 q r; omega⟩
      · rcases hq with r | r | ⟨e, he, r⟩
        · exact .inl (.inl r)
        · exact .inr (hA3 q r)
        · obtain ⟨hoke, e0, he0, hA0⟩ := HK.out.ok e he
          rw [hA0] at r
          exact .inl (.inr (.inr ⟨e0, he0, r⟩))
end
end Go.Proofs.Ytjdoemmfemogmaa.Ar
