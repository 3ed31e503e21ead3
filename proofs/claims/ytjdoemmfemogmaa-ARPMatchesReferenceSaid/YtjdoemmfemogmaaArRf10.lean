/-
  The reference's Send.
-/
import Derived.Test.YtjdoemmfemogmaaArRfM
import Derived.Test.YtjdoemmfemogmaaHeld
import Derived.Deep.CutBlock
import Derived.Deep.CutRange
namespace Go.Proofs.Ytjdoemmfemogmaa.Ar
set_option maxRecDepth 100000
open Go.RowKit Go.Proofs.Ytjdoemmfemogmaa.Wire

section
variable {W W' : World} {lo T : Nat} {c : Tc} {D : Option Addr} {d : Nat} {L : List Re}
def SendRP (lo T : Nat) (c : Tc) (D : Option Addr) (L : List Re) (w : World) (r : AL × Int × List Am × Int) (e : Ending) (w' : World) : Prop :=
  ∃ (B : Option Addr) (k : Nat) (D' : Option Addr) (d' : Nat) (L' : List Re), e = .returned (.tuple #[.int .i64 r.2.1, .slice B r.2.2.1.length k, .int .i64 r.2.2.2]) ∧
    MRow w' w.heap.size B k r.2.2.1 ∧ RTab w' lo T c D' d' L' ∧ absR L' = r.1 ∧ Chg (ROwn T D L) w w' ∧ ∀ q, ROwn T D' L' q → ROwn T D L q ∨ w.heap.size ≤ q
theorem send_bad_ref (now to_ : Int) (s : ByteArray) (w : World) (h : RTab w lo T c D d L) (hs : s.size ≤ 9223372036854775807) (hbad : uniB to_ = false ∨ to_ = c.own ∨ 1024 < s.size) :
    Calls Try.prog 31 #[.pointer (some ⟨T, 0, none⟩), .int .i64 now, .int .i64 to_, .string s] w fun e w' => e = .returned (.tuple #[.int .i64 0, .slice none 0 0, .int .i64 50]) ∧ w = w' := by
  obtain ⟨t0, -⟩ := cellsR h
  have H1 := Lib.hid (ones_any to_)
  clear h
  by_cases h1 : uniB to_ = false
  · rw [h1] at H1
    clear hbad h1
    go_enter Try.func31, Try.ntmps31
    go_wp2_with (go_at_call 43; (with_reducible refine (H1.out _).mono ?_); rintro e w' ⟨rfl, rfl⟩)
    go_ret3
    exact ⟨rfl, rfl⟩
  have h1' : uniB to_ = true := by cases q : uniB to_ <;> simp_all
  rw [h1'] at H1
  by_cases h2 : to_ = c.own
  · have e2 : (to_ == c.own) = true := beq_iff_eq.2 h2
    clear hbad h1 h1' h2
    go_enter Try.func31, Try.ntmps31
    go_wp2_with (go_at_call 43; (with_reducible refine (H1.out _).mono ?_); rintro e w' ⟨rfl, rfl⟩)
    go_ret3
    exact ⟨rfl, rfl⟩
  · have e2 : (to_ == c.own) = false := beq_eq_false_iff_ne.2 h2
    have h3 : 1024 < s.size := by rcases hbad with q | q | q; (exact absurd q h1); (exact absurd q h2); (exact q)
    have e3 : decide ((1024 : Int) < (s.size : Int)) = true := decide_eq_true (by omega)
    clear hbad h1 h1' h2 h3
    go_enter Try.func31, Try.ntmps31
    go_wp2_with (go_at_call 43; (with_reducible refine (H1.out _).mono ?_); rintro e w' ⟨rfl, rfl⟩)
    go_ret3
    exact ⟨rfl, rfl⟩
theorem ORow.lies {α : Type} {T : TypeId} {k : Nat} {enc : α → List Value} {W : World} {lo : Nat} {A : Option Addr} {c : Nat} {l : List α} (h : ORow T k enc W lo A c l) (h0 : 0 < l.length) : ∃ ad, A = some ad ∧ ∀ j u, (l.flatMap enc)[j]? = some u → W.cell? (ad.add j) = some u := by
  rcases h with ⟨-, rfl, -⟩ | ⟨g, off, cur, rfl, -, h2, -, -, -, h6⟩
  · simp at h0
  · refine ⟨_, rfl, fun j u hu => ?_⟩
    rw [Addr.add_lit]
    exact (cell_of_block h2 (h6 j u hu)).1
theorem ORow.ofS {α : Type} {T : TypeId} {k : Nat} {enc : α → List Value} {W : World} {lo : Nat} {A : Option Addr} {c : Nat} {l : List α} (h : SRow T k enc W lo A c l) : ORow T k enc W lo A c l := by
  rcases h.2 with ⟨h1, h2⟩ | ⟨g, cap, cur, hv, hb, hg, hnc, hcm, hcs, htake⟩
  · simp only [Value.slice.injEq] at h1
    obtain ⟨rfl, h3, rfl⟩ := h1
    exact .inl ⟨rfl, List.eq_nil_of_length_eq_zero h3, rfl⟩
  · simp only [Value.slice.injEq] at hv
    obtain ⟨rfl, -, rfl⟩ := hv
    refine .inr ⟨g, 0, cur, rfl, hb, hg, hnc, hcm, by omega, fun j u hu => ?_⟩
    have hl := (List.getElem?_eq_some_iff.1 hu).1
    rw [← htake, List.getElem?_take] at hu
    split at hu
    · simpa using hu
    · cases hu
theorem ORow.mono {α : Type} {T : TypeId} {k : Nat} {enc : α → List Value} {W : World} {lo lo' : Nat} {A : Option Addr} {c : Nat} {l : List α} (h : ORow T k enc W lo A c l) (hl : lo' ≤ lo) : ORow T k enc W lo' A c l := by
  rcases h with h | ⟨g, off, cur, h1, h2, h3⟩
  · exact .inl h
  · exact .inr ⟨g, off, cur, h1, by omega, h3⟩
theorem ORow.one {W : World} {b : Nat} {s : ByteArray} (hl : lo ≤ b) (h : W.heap[b]? = some (.cells #[.string s] 9 (0, 0))) : ORow 9 1 strC W lo (some ⟨b, 0, none⟩) 1 [s] := ORow.ofS (SRow.new (l := [s]) hl (fun _ => rfl) h rfl (by simp [maxLen]))
theorem SendRP.inc {g : Nat} {w w7 : World} (h : RTab w7 lo T c (some ⟨g, 0, none⟩) d L) (hn : ((absR L).map (·.1)).Nodup) (hb : Below w.heap.size w w7) (hlo : lo ≤ w.heap.size) (hT : T < w.heap.size) (hg : g < w.heap.size) (hgo : ROwn T (some ⟨g, 0, none⟩) L g) {i : Nat} {ke : Int} {held : List ByteArray} {sent first last : Int} {A : Option Addr} {cx : Nat} (hi : L[i]? = some ⟨ke, .inc held sent first last, A, cx⟩) {A' : Option Addr} {c' : Nat} {l' : List ByteArray} (hr : ORow 9 1 strC w7 w.heap.size A' c' l') :
    SendRP lo T c (some ⟨g, 0, none⟩) L w (upd (absR L) ke (.inc l' sent first last), 0, [], 0) (.returned (.tuple #[.int .i64 0, .slice none 0 0, .int .i64 0])) (w7.setCell ⟨g, i * 9 + 5, none⟩ (.slice A' l'.length c')) := by
  have hr' : ORow 9 1 strC (w7.setCell ⟨g, i * 9 + 5, none⟩ (.slice A' l'.length c')) lo A' c' l' := (ORow.mono hr hlo).kept (fun a e => Below.heap_setCell _ _ _ _ (by have := (hr.bk e).1; show a.block ≠ g; omega))
  have hlt : ∀ q, BK A' q → w.heap.size ≤ q := fun q hq => (ORow.lt hr hq).1
  have ht := h.put (e' := ⟨ke, .inc l' sent first last, A', c'⟩) (W' := w7.setCell ⟨g, i * 9 + 5, none⟩ (.slice A' l'.length c')) rfl hi (EnRow.set1 h.row hi (by omega) rfl) (fun q hq _ => Below.heap_setCell _ _ _ _ (by exact hq)) hr' (fun q hq => by have := hlt q hq; omega)
  exact ⟨none, 0, _, d, _, rfl, SRow.nil _ _ _ _ _, ht, absR_set hn hi rfl, Chg.setCell (Chg.of_below hb) (.inl hgo) _, fun q hq => ROwn.set hi hq (fun q hq => .inr (hlt q hq))⟩
theorem rIns_at {x : Int × Ev} : ∀ (R : List Re) (i : Nat), (∀ j e, j < i → R[j]? = some e → e.k < x.1) → (i = R.length ∨ ∃ e, R[i]? = some e ∧ ¬ e.k < x.1) → i ≤ R.length → rIns (absR R) x = absR (R.take i) ++ x :: absR (R.drop i)
  | [], i, _, _, hl => by
    have : i = 0 := by simpa using hl
    subst this
    rfl
  | e :: R, 0, _, h2, _ => by
    have hk : ¬ e.k < x.1 := by
      rcases h2 with h2 | ⟨e', h2, h3⟩
      · simp at h2
      · have : e = e' := by simpa using h2
        rw [this]; exact h3
    unfold rIns
    show ((e.k, e.v) :: absR R).takeWhile _ ++ x :: ((e.k, e.v) :: absR R).dropWhile _ = _
    rw [List.takeWhile_cons, List.dropWhile_cons]
    simp [hk, absR]
  | e :: R, i + 1, h1, h2, hl => by
    have hk : e.k < x.1 := h1 0 e (by omega) rfl
    have ih := rIns_at (x := x) R i (fun j e' hj he => h1 (j + 1) e' (by omega) (by simpa using he)) (by
      rcases h2 with h2 | ⟨e', h2, h3⟩
      · left; simpa using h2
      · right; exact ⟨e', by simpa using h2, h3⟩) (by simpa using hl)
    unfold rIns at ih ⊢
    show ((e.k, e.v) :: absR R).takeWhile _ ++ x :: ((e.k, e.v) :: absR R).dropWhile _ = _
    rw [List.takeWhile_cons, List.dropWhile_cons]
    simp only [hk, decide_true, if_true]
    rw [List.take_succ_cons, List.drop_succ_cons]
    show (e.k, e.v) :: _ ++ _ = (e.k, e.v) :: absR (R.take i) ++ _
    rw [List.cons_append, List.cons_append, ih]
theorem erase_abs (L : List Re) (k : Nat) : absR (L.eraseIdx k) = (absR L).eraseIdx k := map_erase _ _ _
theorem room_ref (w : World) (h : RTab w lo T c D d L) (hn : ((absR L).map (·.1)).Nodup) (hL : L.length ≤ 16) : Calls Try.prog 55 #[.pointer (some ⟨T, 0, none⟩)] w fun x w' => (∃ v, x = .returned v) ∧ ∃ D' d' L', absR L' = roomR (absR L) ∧ (∀ e ∈ L', e ∈ L) ∧ L'.length < 16 ∧ RTab w' lo T c D' d' L' ∧ Chg (fun q => q = T) w w' ∧ ∀ q, ROwn T D' L' q → ROwn T D L q ∨ w.heap.size ≤ q := by
  have hlen : (absR L).length = L.length := by unfold absR; simp
  by_cases h16 : L.length < 16
  · refine (room_has w h h16).mono ?_
    rintro x w' ⟨hx, rfl⟩
    exact ⟨hx, D, d, L, by unfold roomR; rw [if_neg (by omega)], fun e he => he, h16, h, Chg.refl _ _, fun q hq => .inl hq⟩
  · have h16 : L.length = 16 := by omega
    refine (room_full w h h16).mono ?_
    rintro x w' ⟨hx, k, D', d', ⟨x0, R, hA, hk, hf⟩, ht, hc, ho⟩
    have hR : R.length = 15 := by have := congrArg List.length hA; simp at this; omega
    rw [List.take_of_length_le (by omega)] at hf
    refine ⟨hx, D', d', L.eraseIdx k, ?_, fun e he => (List.eraseIdx_sublist _ _).subset he, by rw [List.length_eraseIdx]; split <;> omega, ht, hc, ho⟩
    unfold roomR
    rw [if_pos (by omega), erase_abs, erase_key hn hf]
    have e : vicR (absR L) = (R.foldl pickB x0).1 := by rw [hA]; rfl
    rw [e]
set_option maxHeartbeats 8000000 in
theorem send_ok_ref (now to_ : Int) (s : ByteArray) (w : World) (h : RTab w lo T c D d L) (hn : ((absR L).map (·.1)).Nodup) (hL : L.length ≤ 16) (hev : ∀ e ∈ L, EvI now e.v) (hs : s.size ≤ 9223372036854775807) (hok : ¬ (uniB to_ = false ∨ to_ = c.own ∨ 1024 < s.size)) :
    Calls Try.prog 31 #[.pointer (some ⟨T, 0, none⟩), .int .i64 now, .int .i64 to_, .string s] w fun e w' => SendRP lo T c D L w (sendR c (absR L) now to_ s) e w' := by
  have HT := Lib.hid h; have HNOD := Lib.hid hn; have HEV := Lib.hid hev; have HOK := Lib.hid hok
  obtain ⟨t0, -, t2, -⟩ := cellsR h
  have H1 := Lib.hid (ones_any to_)
  have hu1 : uniB to_ = true := by cases q : uniB to_ <;> simp_all
  have e2 : (to_ == c.own) = false := beq_eq_false_iff_ne.2 (fun q => hok (.inr (.inl q)))
  have e3 : decide ((1024 : Int) < (s.size : Int)) = false := decide_eq_false (fun q => hok (.inr (.inr (by omega))))
  rw [hu1] at H1
  have HF := Lib.hid (find_ref to_ w h (by omega))
  obtain ⟨n, hln⟩ : ∃ n, L.length = n := ⟨_, rfl⟩
  have HLN := Lib.hid hln
  rw [hln] at t2 hL
  clear h hn hev hok hu1 hln
  go_enter Try.func31, Try.ntmps31
  go_wp2_with (go_at_call 43; (with_reducible refine (H1.out _).mono ?_); rintro e w' ⟨rfl, rfl⟩)
  refine HF.out.mono ?_
  rintro x w' ⟨⟨i, e, hi, hk, rfl⟩ | ⟨hno, rfl⟩, rfl⟩
  · have hil : i < n := by have := (List.getElem?_eq_some_iff.1 hi).1; rw [HLN.out] at this; exact this
    have i0 : (0 : Int) ≤ (i : Int) := by omega
    have i1 : (i : Int) < (n : Int) := by omega
    have d1 : decide ((0 : Int) ≤ (i : Int)) = true := decide_eq_true (by omega)
    obtain ⟨g, rfl, hgl, hgo⟩ := HT.out.has hi
    have hgT : g ≠ T := HT.out.ne1 g ⟨_, rfl, rfl⟩
    have hl := absR_some HNOD.out hi
    rw [hk] at hl
    have HLK := Lib.hid hl; have HI := Lib.hid hi
    have hgz := blk_lt HT.out.tab
    obtain ⟨ke, v, A, cx⟩ := e
    dsimp only at hk hl HLK
    subst hk
    cases v with
    | res mac since used =>
      have HSR : Hid (sendR c (absR L) now ke s = (upd (absR L) ke (.res mac since now), mac, [], 0)) := Lib.hid (by unfold sendR; rw [if_neg HOK.out, hl])
      have c1 := HT.out.at_ rfl hi (r := 1) (by omega) rfl
      have c4 := HT.out.row.cell Re.len rfl hi (r := 4) (by omega) rfl
      have z4 : w.frozen? ⟨g, i * 9 + 4, none⟩ = false := World.ownsRow.frozenAt HT.out.row _
      have hA : A = none := HT.out.ok _ (List.mem_of_getElem? hi)
      subst hA
      have HT2 : Hid (RTab (w.setCell ⟨g, i * 9 + 4, none⟩ (.int .i64 now)) lo T c (some ⟨g, 0, none⟩) d (L.set i ⟨ke, .res mac since now, none, cx⟩)) := Lib.hid (HT.out.put rfl hi (EnRow.set1 HT.out.row hi (by omega) rfl) (fun q hq _ => Below.heap_setCell _ _ _ _ (by exact hq)) rfl (fun q hq => absurd hq (bk_none q)))
      have HC2 : Hid (Chg (ROwn T (some ⟨g, 0, none⟩) L) w (w.setCell ⟨g, i * 9 + 4, none⟩ (.int .i64 now))) := Lib.hid (Chg.setCell (Chg.refl _ _) (.inl hgo) _)
      clear hi hl
      go_upto_region 6 with fail
      generalize w.setCell ⟨g, i * 9 + 4, none⟩ (.int .i64 now) = w2 at *
      clear t0 t2 c1 c4 z4
      have hlen2 : (L.set i ⟨ke, .res mac since now, none, cx⟩).length = n := by rw [List.length_set]; exact HLN.out
      have hi2 : (L.set i ⟨ke, .res mac since now, none, cx⟩)[i]? = some ⟨ke, .res mac since now, none, cx⟩ := by rw [List.getElem?_set_self (by rw [HLN.out]; exact hil)]
      obtain ⟨-, -, t2, -⟩ := cellsR HT2.out
      rw [hlen2] at t2
      have c2 := HT2.out.at_ rfl hi2 (r := 2) (by omega) rfl
      clear hlen2 hi2
      go_wp2_with fail
      all_goals first | (exfalso; omega) | skip
      go_ret3
      rw [HSR.out]
      exact ⟨none, 0, _, d, _, rfl, SRow.nil _ _ _ _ _, HT2.out, absR_set HNOD.out HI.out rfl, HC2.out, fun q hq => ROwn.set HI.out hq (fun q hq => absurd hq (bk_none q))⟩
    | inc held sent first last =>
      have HSR : Hid (sendR c (absR L) now ke s = (upd (absR L) ke (.inc (last4 (held ++ [s])) sent first last), 0, [], 0)) := Lib.hid (by unfold sendR; rw [if_neg HOK.out, hl])
      obtain ⟨i0', hi0, hz0, hz1, hz2⟩ := info_parts infoStr
      have HI0 := Lib.hid hi0; have HZ0 := Lib.hid hz0; have HZ1 := Lib.hid hz1; have HZ2 := Lib.hid hz2
      clear hi0 hz0 hz1 hz2
      have c1 := HT.out.at_ rfl hi (r := 1) (by omega) rfl
      have c5 := HT.out.at_ rfl hi (r := 5) (by omega) rfl
      have hrow : ORow 9 1 strC w lo A cx held := HT.out.ok _ (List.mem_of_getElem? hi)
      have hevi := HEV.out _ (List.mem_of_getElem? hi)
      unfold EvI at hevi
      obtain ⟨⟨hh1, hh4⟩, -⟩ := hevi
      obtain ⟨m, hm⟩ : ∃ m, held.length = m := ⟨_, rfl⟩
      have HM := Lib.hid hm; have HROW := Lib.hid hrow
      rw [hm] at c5 hh1 hh4
      clear hi hl hm hrow
      have hT0 := (HT.out.lt (.inl rfl)).2
      have hg0 := (HT.out.lt hgo).2
      have hbx := Lib.hid (below_alloc (o := .cells #[] 9) (Below.refl w.heap.size w))
      have hne := Lib.hid (SRow.new (W := w.alloc (.cells #[] 9)) (T := 9) (k := 1) (enc := strC) (lo := w.heap.size) (l := []) (Nat.le_refl _) (fun _ => rfl) (alloc_new w (.cells #[] 9)) rfl (by simp [maxLen]))
      have hro := Lib.hid (ORow.lies (ORow.kept (W' := w.alloc (.cells #[] 9)) HROW.out (fun a e => hbx.out.block _ (ORow.bk HROW.out e).2)) (by rw [HM.out]; omega))
      have hsz0 : (w.alloc (.cells #[] 9)).heap.size = w.heap.size + 1 := by simp
      have hone : Hid (∀ l : List ByteArray, ∀ u ∈ l.flatMap strC, u.oneCell' = true) := Lib.hid (fun l u hu => by obtain ⟨p, -, hp⟩ := List.mem_flatMap.1 hu; simp [strC] at hp; rw [hp]; rfl)
      go_upto_region 9 with (at_builtin; first
        | ((refine list_app rfl (.tmp 73) (.tmp 75) 35 rfl (HO6.out.below ((Below.refl w6.heap.size w6).alloc (Nat.le_refl _) (.cells #[.string s] 9))) (fun _ => rfl) i0' _ 16 Try.underlying35 HI0.out HZ0.out HZ1.out HZ2.out rfl (by decide) _ (by simpa using HM.out) _ _ _ [s] rfl rfl rfl (fun _ => ⟨_, rfl, World.news_of_block (heap_alloc_new w6 _)⟩) (hone.out _) (by unfold maxLen; omega) (by omega) (by simp; omega) ?_); intro A2 c2' w7 hown7 hgrow7 hat7)
        | ((refine list_app rfl (.tmp 64) (.tmp 72) 35 rfl hne.out (fun _ => rfl) i0' _ 16 Try.underlying35 HI0.out HZ0.out HZ1.out HZ2.out rfl (by decide) 0 rfl _ _ _ held rfl rfl HM.out (fun _ => hro.out) (hone.out _) (by unfold maxLen; omega) (by omega) (by rw [hsz0]; omega) ?_); intro A1 c1' w6 hown6 hgrow6 hat6; have HO6 := Lib.hid hown6; have HB6 := Lib.hid (hbx.out.grown hgrow6 (by simp) (fun q e => by have := (hne.out.bk' (ob_bk e)).1; omega)); have hz6 := HB6.out.size; clear hown6 hgrow6 hat6))
      have HB7 := Lib.hid ((below_alloc (o := .cells #[.string s] 9) HB6.out).grown hgrow7 (by simp; omega) (fun q e => by have := (HO6.out.bk' (ob_bk e)).1; omega))
      have hr7 : SRow 9 1 strC w7 w.heap.size A2 c2' (held ++ [s]) := by simpa using hown7
      clear hown7 hgrow7 hat7 HO6 HB6 hz6
      obtain ⟨g2, rfl, hg2⟩ := hr7.addr (by simp)
      have HR7 := Lib.hid hr7
      have HT7 := Lib.hid (HT.out.below HB7.out)
      have HE7 := Lib.hid HI.out
      obtain ⟨m1, hm1⟩ : ∃ m1, m + 1 = m1 := ⟨_, rfl⟩
      rw [hm1]
      have hcp := hr7.cap
      rw [List.length_append, HM.out] at hcp
      have hcp2 : m1 ≤ c2' := by simp at hcp; omega
      clear t0 t2 c1 c5 hr7 hcp
      obtain ⟨-, -, t2, -⟩ := cellsR HT7.out
      rw [HLN.out] at t2
      have c5 := HT7.out.row.cell Re.len rfl HI.out (r := 5) (by omega) rfl
      have z5 : w7.frozen? ⟨g, i * 9 + 5, none⟩ = false := World.ownsRow.frozenAt HT7.out.row _
      have hlw : lo ≤ w.heap.size := by omega
      by_cases h4 : 4 < m1
      · have d5 : decide ((4 : Int) < (m1 : Int)) = true := decide_eq_true (by omega)
        have j1 : (1 : Int) ≤ (m1 : Int) := by omega
        have j2 : ¬ c2' = 1 := by omega
        have j3 : (1 : Int) ≤ (c2' : Int) := by omega
        have hl4 : last4 (held ++ [s]) = (held ++ [s]).tail := by unfold last4; rw [if_pos (by rw [List.length_append, HM.out]; simp; omega)]; rw [List.drop_one]
        have hlt : (held ++ [s]).tail.length = m1 - 1 := by rw [List.length_tail, List.length_append, HM.out]; simp; omega
        have hor : ORow 9 1 strC w7 w.heap.size (some ⟨g2, 1, none⟩) (c2' - 1) ((held ++ [s]).tail) := by
          have h := ORow.ofS HR7.out
          cases hx : held ++ [s] with
          | nil => simp at hx
          | cons x l => rw [hx] at h; exact h.tail (fun _ => rfl) rfl
        have HFIN := Lib.hid (SendRP.inc HT7.out HNOD.out HB7.out hlw hT0 hg0 hgo HI.out hor)
        rw [hlt] at HFIN
        have HL4 := Lib.hid hl4
        clear hl4 hlt hor hm1
        go_wp2_with fail
        all_goals first | (exfalso; omega) | skip
        go_ret3
        rw [HSR.out]
        rw [HL4.out]
        exact HFIN.out
      · have d5 : decide ((4 : Int) < (m1 : Int)) = false := decide_eq_false (by omega)
        have hl4 : last4 (held ++ [s]) = held ++ [s] := by unfold last4; rw [if_neg (by rw [List.length_append, HM.out]; simp; omega)]
        have hlt : (held ++ [s]).length = m1 := by rw [List.length_append, HM.out]; simp; omega
        have HFIN := Lib.hid (SendRP.inc HT7.out HNOD.out HB7.out hlw hT0 hg0 hgo HI.out (ORow.ofS HR7.out))
        rw [hlt] at HFIN
        have HL4 := Lib.hid hl4
        clear hl4 hlt hm1
        go_wp2_with fail
        all_goals first | (exfalso; omega) | skip
        go_ret3
        rw [HSR.out]
        rw [HL4.out]
        exact HFIN.out
  · have d1 : decide ((0 : Int) ≤ -1) = false := by decide
    have hl := absR_none hno
    have HSR : Hid (sendR c (absR L) now to_ s = (rIns (roomR (absR L)) (to_, .inc [s] 1 now now), 0, [req c to_], 0)) := Lib.hid (by unfold sendR; rw [if_neg HOK.out, hl])
    have HNO := Lib.hid hno
    clear hno hl
    have HROOM := Lib.hid (room_ref w HT.out HNOD.out (by rw [HLN.out]; exact hL))
    go_wp2_with fail
    all_goals first | (exfalso; omega) | skip
    refine HROOM.out.mono ?_
    rintro x w1 ⟨⟨v, rfl⟩, D1, d2, L1, habs, hmem, hlen1, hT1, hC1, hown1⟩
    have HABS := Lib.hid habs; have HT1 := Lib.hid hT1; have HC1 := Lib.hid hC1; have HOW := Lib.hid hown1
    have HMEM := Lib.hid hmem
    obtain ⟨n1, hn1⟩ : ∃ n1, L1.length = n1 := ⟨_, rfl⟩
    have HN1 := Lib.hid hn1
    rw [hn1] at hlen1
    clear habs hT1 hC1 hown1 hmem hn1 HROOM t0 t2
    obtain ⟨t0, -, t2, -⟩ := cellsR HT1.out
    rw [HN1.out] at t2
    go_upto_block 0 with fail
    go_cut [13] from 92 to 112 (fun iv wy => ∃ i : Nat, i ≤ n1 ∧ iv = .int .i64 (i : Int) ∧ wy = w1 ∧ (∀ j e, j < i → L1[j]? = some e → e.k < to_) ∧ (i = n1 ∨ ∃ e, L1[i]? = some e ∧ ¬ e.k < to_))
    case first =>
      go_wp2_with fail
      go_loopw [13] (fun iv wr => ∃ k : Nat, k ≤ n1 ∧ iv = .int .i64 (k : Int) ∧ wr = w1 ∧ ∀ j e, j < k → L1[j]? = some e → e.k < to_) (fun iv _ => n1 - (Go.RowKit.intOf iv).toNat)
      case atStart => exact ⟨0, by omega, rfl, rfl, fun j e hj => by omega⟩
      case round =>
        obtain ⟨i, hi, rfl, rfl, hpre⟩ := hrel
        have HP := Lib.hid hpre
        clear hpre
        by_cases hgo : ∃ e, L1[i]? = some e ∧ e.k < to_
        · obtain ⟨e, he, hek⟩ := hgo
          have hlt : i < n1 := by have := (List.getElem?_eq_some_iff.1 he).1; rw [HN1.out] at this; exact this
          have d3 : decide ((i : Int) < (n1 : Int)) = true := decide_eq_true (by omega)
          have d4 : decide (e.k < to_) = true := decide_eq_true hek
          have k0 : (0 : Int) ≤ (i : Int) := by omega
          have k1 : (i : Int) < (n1 : Int) := by omega
          obtain ⟨g, rfl, -⟩ := HT1.out.has he
          have c0 := HT1.out.key rfl he
          have HE := Lib.hid he; have HEK := Lib.hid hek
          clear he hek
          go_wp2_with fail
          all_goals first | (exfalso; omega) | skip
          refine ⟨⟨i + 1, by omega, by go_num, trivial, fun j e' hj he' => ?_⟩, by simp [Go.RowKit.intOf]; omega⟩
          by_cases q : j = i
          · subst q
            have := HE.out
            rw [he'] at this; cases this
            exact HEK.out
          · exact HP.out j e' (by omega) he'
        · have hstop : i = n1 ∨ ∃ e, L1[i]? = some e ∧ ¬ e.k < to_ := by
            by_cases q : i = n1
            · exact .inl q
            · have hl : i < L1.length := by rw [HN1.out]; omega
              exact .inr ⟨_, List.getElem?_eq_getElem hl, fun h => hgo ⟨_, List.getElem?_eq_getElem hl, h⟩⟩
          have HSTOP := Lib.hid hstop
          clear hgo
          rcases hstop with rfl | ⟨e, he, hek⟩
          · have d3 : decide ((i : Int) < (i : Int)) = false := decide_eq_false (by omega)
            go_wp2_with fail
            all_goals first | (exfalso; omega) | skip
            go_meet
            exact ⟨i, Nat.le_refl _, rfl, rfl, HP.out, .inl rfl⟩
          · have hlt : i < n1 := by have := (List.getElem?_eq_some_iff.1 he).1; rw [HN1.out] at this; exact this
            have d3 : decide ((i : Int) < (n1 : Int)) = true := decide_eq_true (by omega)
            have d4 : decide (e.k < to_) = false := decide_eq_false hek
            have k0 : (0 : Int) ≤ (i : Int) := by omega
            have k1 : (i : Int) < (n1 : Int) := by omega
            obtain ⟨g, rfl, -⟩ := HT1.out.has he
            have c0 := HT1.out.key rfl he
            have HE := Lib.hid he; have HEK : Hid (e.k < to_ → False) := Lib.hid hek
            clear he hek
            go_wp2_with fail
            all_goals first | (exfalso; omega) | skip
            go_meet
            exact ⟨i, hi, rfl, rfl, HP.out, .inr ⟨e, HE.out, Int.not_lt.1 HEK.out⟩⟩
    case rest =>
      obtain ⟨i, hi, rfl, rfl, hpre, hstop⟩ := hcut
      obtain ⟨w1, rfl⟩ : ∃ wo : World, wo = wc := ⟨_, rfl⟩
      have HP := Lib.hid hpre; have HSTOP := Lib.hid hstop
      clear hpre hstop
      obtain ⟨LA, hLA⟩ : ∃ LA, L1.take i = LA := ⟨_, rfl⟩
      obtain ⟨LB, hLB⟩ : ∃ LB, L1.drop i = LB := ⟨_, rfl⟩
      have HTK : Hid (LA.length = i) := Lib.hid (by rw [← hLA, List.length_take, HN1.out]; omega)
      have HDL : Hid (LB.length = n1 - i) := Lib.hid (by rw [← hLB, List.length_drop, HN1.out])
      have HLA := Lib.hid hLA; have HLB := Lib.hid hLB
      clear hLA hLB
      go_upto_region 18 with fail
      go_cut [14] (fun sv wx => ∃ (A3 : Option Addr) (c3 b : Nat), sv = .slice A3 (n1 + 1) c3 ∧ EnRow wx w1.heap.size A3 c3 (LA ++ ⟨to_, .inc [s] 1 now now, some ⟨b, 0, none⟩, 1⟩ :: LB) ∧ wx.heap[b]? = some (.cells #[.string s] 9 (0, 0)) ∧ Below w1.heap.size w1 wx ∧ w1.heap.size ≤ b ∧ ¬ BK A3 b)
      case first =>
        obtain ⟨i0', hi0, hz0, hz1, hz2⟩ := info_parts infoEn
        have HI0 := Lib.hid hi0; have HZ0 := Lib.hid hz0; have HZ1 := Lib.hid hz1; have HZ2 := Lib.hid hz2
        clear hi0 hz0 hz1 hz2
        have HROW1 := Lib.hid HT1.out.row
        have hcap := HT1.out.row.cap
        rw [HN1.out] at hcap
        have hcase : (D1 = none ∧ n1 = 0 ∧ d2 = 0) ∨ (∃ g, D1 = some ⟨g, 0, none⟩) := by
          rcases HROW1.out.2 with ⟨h1, h2⟩ | ⟨g, cap, cur, hv, -⟩
          · simp only [Value.slice.injEq] at h1
            exact .inl ⟨h1.1, by have := HN1.out; omega, h1.2.2⟩
          · simp only [Value.slice.injEq] at hv
            exact .inr ⟨g, hv.1⟩
        have k0 : (0 : Int) ≤ (i : Int) := by omega
        have k1 : (i : Int) ≤ (n1 : Int) := by omega
        have k2 : (i : Int) ≤ (d2 : Int) := by omega
        have hor : d2 = i ∨ ¬ d2 = i := by omega
        obtain ⟨w0, hw0⟩ : ∃ w0, w1.drew = w0 := ⟨_, rfl⟩
        have HB0 : Hid (Below w1.heap.size w1 w0) := Lib.hid (by rw [← hw0]; exact (Below.refl _ _).drew)
        have t2' : w0.cell? ⟨T, 2, none⟩ = some (.slice D1 n1 d2) := by rw [← hw0]; exact t2
        have ht2 := Lib.hid t2'; have ht21 := Lib.hid t2
        rcases hcase with ⟨rfl, hn0, hd0⟩ | ⟨g, rfl⟩
        · have hi0 : i = 0 := by omega
          subst hn0 hd0 hi0
          refine wp_region_held_drew (S := fun w' => w'.cell? ⟨T, 2, none⟩ = some (.slice none 0 0)) (by kernel_rfl) (by rw [hw0]; exact ht2.out) ?_
          rw [hw0]
          intro hS
          clear hw0 t2 t2'
          have t2 := ht21.out
          refine wpAnyH_take (i := 0) (oi := ⟨some 113, _, _, _, _, _⟩) (v := ?van1i0) rfl (by kernel_rfl) (by kernel_rfl) (by kernel_rfl) (fun _ _ _ h => h) (Or.inl ⟨by rfl, ?hyan1i0⟩) (by exact hS) ?rean1i0
          case hyan1i0 => (intro ww hSw; (try dsimp only at hSw); go_simp; first | done | with_reducible rfl)
          try simp only [Act.put, List.setIfInBounds_toArray, List.set_cons_zero, List.set_cons_succ]
          refine wpAnyH_take (i := 1) (oi := ⟨some 114, _, _, _, _, _⟩) (v := ?van1i1) rfl (by kernel_rfl) (by kernel_rfl) (by kernel_rfl) (fun _ _ _ h => h) (Or.inl ⟨by rfl, ?hyan1i1⟩) (by exact hS) ?rean1i1
          case hyan1i1 => (intro ww hSw; (try dsimp only at hSw); go_simp; first | done | with_reducible rfl)
          try simp only [Act.put, List.setIfInBounds_toArray, List.set_cons_zero, List.set_cons_succ]
          refine wpAnyH_take (i := 2) (oi := ⟨some 115, _, _, _, _, _⟩) (v := ?van1i2) rfl (by kernel_rfl) (by kernel_rfl) (by kernel_rfl) (fun _ _ _ h => h) (Or.inl ⟨by rfl, ?hyan1i2⟩) (by exact hS) ?rean1i2
          case hyan1i2 => (intro ww hSw; (try dsimp only at hSw); go_simp; first | done | with_reducible rfl)
          try simp only [Act.put, List.setIfInBounds_toArray, List.set_cons_zero, List.set_cons_succ]
          refine wpAnyH_take (i := 3) (oi := ⟨some 116, _, _, _, _, _⟩) (v := ?van1i3) rfl (by kernel_rfl) (by kernel_rfl) (by kernel_rfl) (fun _ _ _ h => h) (Or.inl ⟨by rfl, ?hyan1i3⟩) (by exact hS) ?rean1i3
          case hyan1i3 => (intro ww hSw; (try dsimp only at hSw); go_simp; first | done | with_reducible rfl)
          try simp only [Act.put, List.setIfInBounds_toArray, List.set_cons_zero, List.set_cons_succ]
          refine wpAnyH_take (i := 4) (oi := ⟨some 117, _, _, _, _, _⟩) (v := ?van1i4) rfl (by kernel_rfl) (by kernel_rfl) (by kernel_rfl) (fun _ _ _ h => h) (Or.inl ⟨by rfl, ?hyan1i4⟩) (by exact hS) ?rean1i4
          case hyan1i4 => (intro ww hSw; (try dsimp only at hSw); go_simp; first | done | with_reducible rfl)
          try simp only [Act.put, List.setIfInBounds_toArray, List.set_cons_zero, List.set_cons_succ]
          refine wpAnyH_take (i := 5) (oi := ⟨some 118, _, _, _, _, _⟩) (v := ?van1i5) rfl (by kernel_rfl) (by kernel_rfl) (by kernel_rfl) (fun _ _ _ h => h) (Or.inl ⟨by rfl, ?hyan1i5⟩) (by exact hS) ?rean1i5
          case hyan1i5 => (intro ww hSw; (try dsimp only at hSw); go_simp; first | done | with_reducible rfl)
          try simp only [Act.put, List.setIfInBounds_toArray, List.set_cons_zero, List.set_cons_succ]
          refine wpAnyH_take (i := 6) (oi := ⟨some 119, _, _, _, _, _⟩) (v := ?van1i6) rfl (by kernel_rfl) (by kernel_rfl) (by kernel_rfl) (fun _ _ _ h => h) (Or.inl ⟨by rfl, ?hyan1i6⟩) (by exact hS) ?rean1i6
          case hyan1i6 => (intro ww hSw; (try dsimp only at hSw); go_simp; first | done | with_reducible rfl)
          try simp only [Act.put, List.setIfInBounds_toArray, List.set_cons_zero, List.set_cons_succ]
          refine wpAnyH_take (i := 8) (oi := ⟨some 121, _, _, _, _, _⟩) (v := ?van1i8) rfl (by kernel_rfl) (by kernel_rfl) (by kernel_rfl) (fun _ _ _ h => h) (Or.inl ⟨by rfl, ?hyan1i8⟩) (by exact hS) ?rean1i8
          case hyan1i8 => (intro ww hSw; (try dsimp only at hSw); go_simp; first | done | with_reducible rfl)
          try simp only [Act.put, List.setIfInBounds_toArray, List.set_cons_zero, List.set_cons_succ]
          refine wpAnyH_take (i := 9) (oi := ⟨some 122, _, _, _, _, _⟩) (v := ?van1i9) rfl (by kernel_rfl) (by kernel_rfl) (by kernel_rfl) (fun _ _ _ h => h) (Or.inl ⟨by rfl, ?hyan1i9⟩) (by exact hS) ?rean1i9
          case hyan1i9 => (intro ww hSw; (try dsimp only at hSw); go_simp; first | done | with_reducible rfl)
          try simp only [Act.put, List.setIfInBounds_toArray, List.set_cons_zero, List.set_cons_succ]
          refine wpAnyH_take (i := 11) (oi := ⟨some 124, _, _, _, _, _⟩) (v := ?van1i11) rfl (by kernel_rfl) (by kernel_rfl) (by kernel_rfl) (fun _ _ _ h => h) (Or.inl ⟨by rfl, ?hyan1i11⟩) (by exact hS) ?rean1i11
          case hyan1i11 => (intro ww hSw; (try dsimp only at hSw); go_simp; first | done | with_reducible rfl)
          try simp only [Act.put, List.setIfInBounds_toArray, List.set_cons_zero, List.set_cons_succ]
          refine wpAnyH_take (i := 12) (oi := ⟨some 125, _, _, _, _, _⟩) (v := ?van1i12) rfl (by kernel_rfl) (by kernel_rfl) (by kernel_rfl) (fun _ _ _ h => h) (Or.inl ⟨by rfl, ?hyan1i12⟩) (by exact hS) ?rean1i12
          case hyan1i12 => (intro ww hSw; (try dsimp only at hSw); go_simp; first | done | with_reducible rfl)
          try simp only [Act.put, List.setIfInBounds_toArray, List.set_cons_zero, List.set_cons_succ]
          refine wpAnyH_take (i := 16) (oi := ⟨some 129, _, _, _, _, _⟩) (v := ?van1i16) rfl (by kernel_rfl) (by kernel_rfl) (by kernel_rfl) (fun _ _ _ h => h) (Or.inl ⟨by rfl, ?hyan1i16⟩) (by exact hS) ?rean1i16
          case hyan1i16 => (intro ww hSw; (try dsimp only at hSw); go_simp; first | done | with_reducible rfl)
          try simp only [Act.put, List.setIfInBounds_toArray, List.set_cons_zero, List.set_cons_succ]
          refine wpAnyH_take (i := 17) (oi := ⟨some 130, _, _, _, _, _⟩) (v := ?van1i17) rfl (by kernel_rfl) (by kernel_rfl) (by kernel_rfl) (fun _ _ _ h => h) (Or.inl ⟨by rfl, ?hyan1i17⟩) (by exact hS) ?rean1i17
          case hyan1i17 => (intro ww hSw; (try dsimp only at hSw); go_simp; first | done | with_reducible rfl)
          try simp only [Act.put, List.setIfInBounds_toArray, List.set_cons_zero, List.set_cons_succ]
          refine wpAnyH_take (i := 18) (oi := ⟨some 131, _, _, _, _, _⟩) (v := ?van1i18) rfl (by kernel_rfl) (by kernel_rfl) (by kernel_rfl) (fun _ _ _ h => h) (Or.inl ⟨by rfl, ?hyan1i18⟩) (by exact hS) ?rean1i18
          case hyan1i18 => (intro ww hSw; (try dsimp only at hSw); go_simp; first | done | with_reducible rfl)
          try simp only [Act.put, List.setIfInBounds_toArray, List.set_cons_zero, List.set_cons_succ]
          refine wpAnyH_take (i := 19) (oi := ⟨some 132, _, _, _, _, _⟩) (v := ?van1i19) rfl (by kernel_rfl) (by kernel_rfl) (by kernel_rfl) (fun _ _ _ h => h) (Or.inl ⟨by rfl, ?hyan1i19⟩) (by exact hS) ?rean1i19
          case hyan1i19 => (intro ww hSw; (try dsimp only at hSw); go_simp; first | done | with_reducible rfl)
          try simp only [Act.put, List.setIfInBounds_toArray, List.set_cons_zero, List.set_cons_succ]
          refine wpAnyH_take (i := 20) (oi := ⟨some 133, _, _, _, _, _⟩) (v := ?van1i20) rfl (by kernel_rfl) (by kernel_rfl) (by kernel_rfl) (fun _ _ _ h => h) (Or.inl ⟨by rfl, ?hyan1i20⟩) (by exact hS) ?rean1i20
          case hyan1i20 => (intro ww hSw; (try dsimp only at hSw); go_simp; first | done | with_reducible rfl)
          try simp only [Act.put, List.setIfInBounds_toArray, List.set_cons_zero, List.set_cons_succ]
          refine wpAnyH_take (i := 21) (oi := ⟨some 134, _, _, _, _, _⟩) (v := ?van1i21) rfl (by kernel_rfl) (by kernel_rfl) (by kernel_rfl) (fun _ _ _ h => h) (Or.inl ⟨by rfl, ?hyan1i21⟩) (by exact hS) ?rean1i21
          case hyan1i21 => (intro ww hSw; (try dsimp only at hSw); go_simp; first | done | with_reducible rfl)
          try simp only [Act.put, List.setIfInBounds_toArray, List.set_cons_zero, List.set_cons_succ]
          refine wpAnyH_ready (rs := [7, 10]) (by kernel_rfl) (by simp) ?_
          refine AllReadyH.cons (o := ⟨some 120, _, _, _, _, _⟩) rfl (fun Kx0 hKx0 => ?stx0) ?mox0
          case stx0 =>
            have hzzx0 := HB0.out.size
            refine step_app rfl (.tmp 113) (.tmp 119) 107 rfl (SRow.nil 111 9 Re.cells w0 w1.heap.size) Re.len i0' _ 88 Try.underlying107 HI0.out HZ0.out HZ1.out HZ2.out rfl (by decide) 0 rfl _ _ _ LA rfl rfl HTK.out (by first | exact HB1.out _ HB0.out | exact fun h => absurd h (by omega)) (re_one _) (by unfold maxLen; omega) (by omega) (by omega) ?_
            intro A1 c1 Wx0 hox0 hgx0 hax0
            have HBx0 := Lib.hid (HB0.out.grown hgx0 hzzx0 (fun q e => by simp [Value.ownBlock] at e))
            have HA := Lib.hid (show EnRow Wx0 w1.heap.size A1 c1 LA by simpa using hox0)
            have HAq := Lib.hid (fun q (hq : BK A1 q) => (hax0 q hq).resolve_left (bk_none q))
            clear hgx0 hax0 hox0
            refine hKx0.out _ _ (bcell HBx0.out t2) (fun hx0 => ?_)
            try simp only [Act.put, List.setIfInBounds_toArray, List.set_cons_zero, List.set_cons_succ]
            have HAlt := Lib.hid (fun q (hq : BK A1 q) => (HA.out.bk' hq).2)
            refine wpAnyH_ready (rs := [10]) (by kernel_rfl) (by simp) ?_
            refine AllReadyH.cons (o := ⟨some 123, _, _, _, _, _⟩) rfl (fun Kx1 hKx1 => ?_) AllReadyH.nil
            go_simp
            have Hqx1 := Lib.hid (alloc_new Wx0 (.cells #[.string s] 9))
            have HBx1 := Lib.hid (below_alloc (o := .cells #[.string s] 9) HBx0.out)
            have hzx1 := HBx0.out.size
            have hHA := HA.out.below ((Below.refl Wx0.heap.size Wx0).alloc (Nat.le_refl _) (.cells #[.string s] 9))
            have HA := Lib.hid hHA; clear hHA
            have HNb : Hid (¬ BK A1 Wx0.heap.size) := Lib.hid (fun hq => by have := HAlt.out _ hq; omega)
            obtain ⟨b, hbe⟩ : ∃ b, Wx0.heap.size = b := ⟨_, rfl⟩
            rw [hbe] at Hqx1 hzx1 HNb ⊢
            have Hb := Hqx1; clear Hqx1
            generalize Wx0.alloc (.cells #[.string s] 9) = Wx1 at *
            refine hKx1.out _ _ (bcell HBx1.out t2) (fun hx1 => ?_)
            try simp only [Act.put, List.setIfInBounds_toArray, List.set_cons_zero, List.set_cons_succ]
            have HAlt := Lib.hid (fun q (hq : BK A1 q) => (HA.out.bk' hq).2)
            refine wpAnyH_take (i := 13) (oi := ⟨some 126, _, _, _, _, _⟩) (v := ?vx1tn2i13) rfl (by kernel_rfl) (by kernel_rfl) (by kernel_rfl) (fun _ _ _ h => h) (Or.inl ⟨by rfl, ?hyx1tn2i13⟩) (by exact hx1) ?rex1tn2i13
            case hyx1tn2i13 => (intro ww hSw; (try dsimp only at hSw); go_simp; first | done | with_reducible rfl)
            try simp only [Act.put, List.setIfInBounds_toArray, List.set_cons_zero, List.set_cons_succ]
            refine wpAnyH_ready (rs := [14]) (by kernel_rfl) (by simp) ?_
            refine AllReadyH.cons (o := ⟨some 127, _, _, _, _, _⟩) rfl (fun Kx2 hKx2 => ?_) AllReadyH.nil
            go_simp
            have Hqx2 := Lib.hid (alloc_new Wx1 (.cells #[.int .i64 to_, .bool false, .int .i64 0, .int .i64 0, .int .i64 0, .slice (some ⟨b, 0, none⟩) 1 1, .int .i64 1, .int .i64 now, .int .i64 now] 111))
            have HBx2 := Lib.hid (below_alloc (o := .cells #[.int .i64 to_, .bool false, .int .i64 0, .int .i64 0, .int .i64 0, .slice (some ⟨b, 0, none⟩) 1 1, .int .i64 1, .int .i64 now, .int .i64 now] 111) HBx1.out)
            have hzx2 := HBx1.out.size
            have hHA := HA.out.below ((Below.refl Wx1.heap.size Wx1).alloc (Nat.le_refl _) (.cells #[.int .i64 to_, .bool false, .int .i64 0, .int .i64 0, .int .i64 0, .slice (some ⟨b, 0, none⟩) 1 1, .int .i64 1, .int .i64 now, .int .i64 now] 111))
            have HA := Lib.hid hHA; clear hHA
            have HNb2 : Hid (¬ BK A1 Wx1.heap.size) := Lib.hid (fun hq => by have := HAlt.out _ hq; omega)
            have Hb := Lib.hid (block_alloc Hb.out (.cells #[.int .i64 to_, .bool false, .int .i64 0, .int .i64 0, .int .i64 0, .slice (some ⟨b, 0, none⟩) 1 1, .int .i64 1, .int .i64 now, .int .i64 now] 111))
            obtain ⟨b2, hb2e⟩ : ∃ b2, Wx1.heap.size = b2 := ⟨_, rfl⟩
            rw [hb2e] at Hqx2 hzx2 HNb2 ⊢
            have Hb2 := Hqx2; clear Hqx2
            generalize Wx1.alloc (.cells #[.int .i64 to_, .bool false, .int .i64 0, .int .i64 0, .int .i64 0, .slice (some ⟨b, 0, none⟩) 1 1, .int .i64 1, .int .i64 now, .int .i64 now] 111) = Wx2 at *
            refine hKx2.out _ _ (bcell HBx2.out t2) (fun hx2 => ?_)
            try simp only [Act.put, List.setIfInBounds_toArray, List.set_cons_zero, List.set_cons_succ]
            have HAlt := Lib.hid (fun q (hq : BK A1 q) => (HA.out.bk' hq).2)
            refine wpAnyH_ready (rs := [15]) (by kernel_rfl) (by simp) ?_
            refine AllReadyH.cons (o := ⟨some 128, _, _, _, _, _⟩) rfl (fun Kx3 hKx3 => ?_) AllReadyH.nil
            have hzzx3 := HBx2.out.size
            have hE : Hid (([⟨to_, .inc [s] 1 now now, some ⟨b, 0, none⟩, 1⟩] : List Re).flatMap Re.cells = [.int .i64 to_, .bool false, .int .i64 0, .int .i64 0, .int .i64 0, .slice (some ⟨b, 0, none⟩) 1 1, .int .i64 1, .int .i64 now, .int .i64 now]) := Lib.hid rfl
            refine step_app rfl (.tmp 120) (.tmp 127) 107 rfl HA.out Re.len i0' _ 88 Try.underlying107 HI0.out HZ0.out HZ1.out HZ2.out rfl (by decide) _ (by first | exact HTK.out | (have := HTK.out; omega)) _ _ _ [⟨to_, .inc [s] 1 now now, some ⟨b, 0, none⟩, 1⟩] rfl rfl rfl (fun _ => ⟨_, rfl, by rw [hE.out]; exact World.news_of_block Hb2.out⟩) (re_one _) (by unfold maxLen; omega) (by omega) (by omega) ?_
            intro A2 c2 Wx3 hox3 hgx3 hax3
            have HBx3 := Lib.hid (HBx2.out.grown hgx3 hzzx3 (fun q e => by have := (HA.out.bk' (ob_bk e)).1; omega))
            have Hb' := Lib.hid ((hgx3.block _ (blk_lt Hb.out) (fun e => HNb.out (ob_bk e.symm))).trans Hb.out)
            have hlb := blk_lt Hb.out
            have HN2 : Hid (¬ BK A2 b) := Lib.hid (fun hq => (hax3 b hq).elim HNb.out (fun h => by omega))
            have HA2 := Lib.hid hox3
            clear hox3 hgx3 hax3
            refine hKx3.out _ _ (bcell HBx3.out t2) (fun hx3 => ?_)
            try simp only [Act.put, List.setIfInBounds_toArray, List.set_cons_zero, List.set_cons_succ]
            refine wpAnyH_ready (rs := [22]) (by kernel_rfl) (by simp) ?_
            refine AllReadyH.cons (o := ⟨some 135, _, _, _, _, _⟩) rfl (fun Kx4 hKx4 => ?_) AllReadyH.nil
            have hzzx4 := HBx3.out.size
            have hl2 : Hid ((LA ++ [(⟨to_, .inc [s] 1 now now, some ⟨b, 0, none⟩, 1⟩ : Re)]).length = LA.length + 1) := Lib.hid (by simp)
            refine step_app rfl (.tmp 128) (.tmp 134) 107 rfl HA2.out Re.len i0' _ 88 Try.underlying107 HI0.out HZ0.out HZ1.out HZ2.out rfl (by decide) _ (by rw [hl2.out, HTK.out] <;> omega) _ _ _ LB rfl rfl (by first | exact HDL.out | (have := HDL.out; omega)) (by first | exact HB2.out _ HBx3.out | exact fun h => absurd h (by omega)) (re_one _) (by unfold maxLen; omega) (by omega) (by omega) ?_
            intro A3 c3 Wx4 hox4 hgx4 hax4
            have HBx4 := Lib.hid (HBx3.out.grown hgx4 hzzx4 (fun q e => by have := (HA2.out.bk' (ob_bk e)).1; omega))
            have Hb3 := Lib.hid ((hgx4.block _ (blk_lt Hb'.out) (fun e => HN2.out (ob_bk e.symm))).trans Hb'.out)
            have hlb3 := blk_lt Hb'.out
            have HN3 : Hid (¬ BK A3 b) := Lib.hid (fun hq => (hax4 b hq).elim HN2.out (fun h => by omega))
            have HA3 := Lib.hid hox4
            clear hox4 hgx4 hax4
            refine hKx4.out _ _ (bcell HBx4.out t2) (fun hx4 => ?_)
            try simp only [Act.put, List.setIfInBounds_toArray, List.set_cons_zero, List.set_cons_succ]
            refine wpAnyH_take (i := 23) (oi := ⟨some 14, _, _, _, _, _⟩) (v := ?vx4tn3i23) rfl (by kernel_rfl) (by kernel_rfl) (by kernel_rfl) (fun _ _ _ h => h) (Or.inl ⟨by rfl, ?hyx4tn3i23⟩) (by exact hx4) ?rex4tn3i23
            case hyx4tn3i23 => (intro ww hSw; (try dsimp only at hSw); go_simp; first | done | with_reducible rfl)
            try simp only [Act.put, List.setIfInBounds_toArray, List.set_cons_zero, List.set_cons_succ]
            refine wpAnyH_done (by kernel_rfl) ?_ _
            go_wp2_with fail
            go_meet
            refine ⟨A3, c3, b, ?_, ?_, Hb3.out, HBx4.out, by omega, HN3.out⟩
            · congr 1 <;> (have := HDL.out; have := HTK.out; omega)
            · have := HA3.out; rw [List.append_assoc] at this; exact this
          case mox0 =>
            refine AllReadyH.cons (o := ⟨some 123, _, _, _, _, _⟩) rfl (fun Ky0 hKy0 => ?_) AllReadyH.nil
            go_simp
            have Hqy0 := Lib.hid (alloc_new w0 (.cells #[.string s] 9))
            have HBy0 := Lib.hid (below_alloc (o := .cells #[.string s] 9) HB0.out)
            have hzy0 := HB0.out.size
            obtain ⟨b, hbe⟩ : ∃ b, w0.heap.size = b := ⟨_, rfl⟩
            rw [hbe] at Hqy0 hzy0 ⊢
            have Hb := Hqy0; clear Hqy0
            generalize w0.alloc (.cells #[.string s] 9) = Wy0 at *
            refine hKy0.out _ _ (bcell HBy0.out t2) (fun hy0 => ?_)
            try simp only [Act.put, List.setIfInBounds_toArray, List.set_cons_zero, List.set_cons_succ]
            refine wpAnyH_take (i := 13) (oi := ⟨some 126, _, _, _, _, _⟩) (v := ?vy0tn4i13) rfl (by kernel_rfl) (by kernel_rfl) (by kernel_rfl) (fun _ _ _ h => h) (Or.inl ⟨by rfl, ?hyy0tn4i13⟩) (by exact hy0) ?rey0tn4i13
            case hyy0tn4i13 => (intro ww hSw; (try dsimp only at hSw); go_simp; first | done | with_reducible rfl)
            try simp only [Act.put, List.setIfInBounds_toArray, List.set_cons_zero, List.set_cons_succ]
            refine wpAnyH_ready (rs := [7, 14]) (by kernel_rfl) (by simp) ?_
            refine AllReadyH.cons (o := ⟨some 120, _, _, _, _, _⟩) rfl (fun Ky1 hKy1 => ?sty1) ?moy1
            case sty1 =>
              have hzzy1 := HBy0.out.size
              refine step_app rfl (.tmp 113) (.tmp 119) 107 rfl (SRow.nil 111 9 Re.cells Wy0 w1.heap.size) Re.len i0' _ 88 Try.underlying107 HI0.out HZ0.out HZ1.out HZ2.out rfl (by decide) 0 rfl _ _ _ LA rfl rfl HTK.out (by first | exact HB1.out _ HBy0.out | exact fun h => absurd h (by omega)) (re_one _) (by unfold maxLen; omega) (by omega) (by omega) ?_
              intro A1 c1 Wy1 hoy1 hgy1 hay1
              have HBy1 := Lib.hid (HBy0.out.grown hgy1 hzzy1 (fun q e => by simp [Value.ownBlock] at e))
              have HA := Lib.hid (show EnRow Wy1 w1.heap.size A1 c1 LA by simpa using hoy1)
              have HAq := Lib.hid (fun q (hq : BK A1 q) => (hay1 q hq).resolve_left (bk_none q))
              have hltby1 := blk_lt Hb.out
              have Hb := Lib.hid ((hgy1.block _ (blk_lt Hb.out) (fun e => by simp [Value.ownBlock] at e)).trans Hb.out)
              have HNb : Hid (¬ BK A1 b) := Lib.hid (fun hq => by have := HAq.out _ hq; omega)
              clear hgy1 hay1 hoy1
              refine hKy1.out _ _ (bcell HBy1.out t2) (fun hy1 => ?_)
              try simp only [Act.put, List.setIfInBounds_toArray, List.set_cons_zero, List.set_cons_succ]
              have HAlt := Lib.hid (fun q (hq : BK A1 q) => (HA.out.bk' hq).2)
              refine wpAnyH_ready (rs := [14]) (by kernel_rfl) (by simp) ?_
              refine AllReadyH.cons (o := ⟨some 127, _, _, _, _, _⟩) rfl (fun Ky2 hKy2 => ?_) AllReadyH.nil
              go_simp
              have Hqy2 := Lib.hid (alloc_new Wy1 (.cells #[.int .i64 to_, .bool false, .int .i64 0, .int .i64 0, .int .i64 0, .slice (some ⟨b, 0, none⟩) 1 1, .int .i64 1, .int .i64 now, .int .i64 now] 111))
              have HBy2 := Lib.hid (below_alloc (o := .cells #[.int .i64 to_, .bool false, .int .i64 0, .int .i64 0, .int .i64 0, .slice (some ⟨b, 0, none⟩) 1 1, .int .i64 1, .int .i64 now, .int .i64 now] 111) HBy1.out)
              have hzy2 := HBy1.out.size
              have hHA := HA.out.below ((Below.refl Wy1.heap.size Wy1).alloc (Nat.le_refl _) (.cells #[.int .i64 to_, .bool false, .int .i64 0, .int .i64 0, .int .i64 0, .slice (some ⟨b, 0, none⟩) 1 1, .int .i64 1, .int .i64 now, .int .i64 now] 111))
              have HA := Lib.hid hHA; clear hHA
              have HNb2 : Hid (¬ BK A1 Wy1.heap.size) := Lib.hid (fun hq => by have := HAlt.out _ hq; omega)
              have Hb := Lib.hid (block_alloc Hb.out (.cells #[.int .i64 to_, .bool false, .int .i64 0, .int .i64 0, .int .i64 0, .slice (some ⟨b, 0, none⟩) 1 1, .int .i64 1, .int .i64 now, .int .i64 now] 111))
              obtain ⟨b2, hb2e⟩ : ∃ b2, Wy1.heap.size = b2 := ⟨_, rfl⟩
              rw [hb2e] at Hqy2 hzy2 HNb2 ⊢
              have Hb2 := Hqy2; clear Hqy2
              generalize Wy1.alloc (.cells #[.int .i64 to_, .bool false, .int .i64 0, .int .i64 0, .int .i64 0, .slice (some ⟨b, 0, none⟩) 1 1, .int .i64 1, .int .i64 now, .int .i64 now] 111) = Wy2 at *
              refine hKy2.out _ _ (bcell HBy2.out t2) (fun hy2 => ?_)
              try simp only [Act.put, List.setIfInBounds_toArray, List.set_cons_zero, List.set_cons_succ]
              have HAlt := Lib.hid (fun q (hq : BK A1 q) => (HA.out.bk' hq).2)
              refine wpAnyH_ready (rs := [15]) (by kernel_rfl) (by simp) ?_
              refine AllReadyH.cons (o := ⟨some 128, _, _, _, _, _⟩) rfl (fun Ky3 hKy3 => ?_) AllReadyH.nil
              have hzzy3 := HBy2.out.size
              have hE : Hid (([⟨to_, .inc [s] 1 now now, some ⟨b, 0, none⟩, 1⟩] : List Re).flatMap Re.cells = [.int .i64 to_, .bool false, .int .i64 0, .int .i64 0, .int .i64 0, .slice (some ⟨b, 0, none⟩) 1 1, .int .i64 1, .int .i64 now, .int .i64 now]) := Lib.hid rfl
              refine step_app rfl (.tmp 120) (.tmp 127) 107 rfl HA.out Re.len i0' _ 88 Try.underlying107 HI0.out HZ0.out HZ1.out HZ2.out rfl (by decide) _ (by first | exact HTK.out | (have := HTK.out; omega)) _ _ _ [⟨to_, .inc [s] 1 now now, some ⟨b, 0, none⟩, 1⟩] rfl rfl rfl (fun _ => ⟨_, rfl, by rw [hE.out]; exact World.news_of_block Hb2.out⟩) (re_one _) (by unfold maxLen; omega) (by omega) (by omega) ?_
              intro A2 c2 Wy3 hoy3 hgy3 hay3
              have HBy3 := Lib.hid (HBy2.out.grown hgy3 hzzy3 (fun q e => by have := (HA.out.bk' (ob_bk e)).1; omega))
              have Hb' := Lib.hid ((hgy3.block _ (blk_lt Hb.out) (fun e => HNb.out (ob_bk e.symm))).trans Hb.out)
              have hlb := blk_lt Hb.out
              have HN2 : Hid (¬ BK A2 b) := Lib.hid (fun hq => (hay3 b hq).elim HNb.out (fun h => by omega))
              have HA2 := Lib.hid hoy3
              clear hoy3 hgy3 hay3
              refine hKy3.out _ _ (bcell HBy3.out t2) (fun hy3 => ?_)
              try simp only [Act.put, List.setIfInBounds_toArray, List.set_cons_zero, List.set_cons_succ]
              refine wpAnyH_ready (rs := [22]) (by kernel_rfl) (by simp) ?_
              refine AllReadyH.cons (o := ⟨some 135, _, _, _, _, _⟩) rfl (fun Ky4 hKy4 => ?_) AllReadyH.nil
              have hzzy4 := HBy3.out.size
              have hl2 : Hid ((LA ++ [(⟨to_, .inc [s] 1 now now, some ⟨b, 0, none⟩, 1⟩ : Re)]).length = LA.length + 1) := Lib.hid (by simp)
              refine step_app rfl (.tmp 128) (.tmp 134) 107 rfl HA2.out Re.len i0' _ 88 Try.underlying107 HI0.out HZ0.out HZ1.out HZ2.out rfl (by decide) _ (by rw [hl2.out, HTK.out] <;> omega) _ _ _ LB rfl rfl (by first | exact HDL.out | (have := HDL.out; omega)) (by first | exact HB2.out _ HBy3.out | exact fun h => absurd h (by omega)) (re_one _) (by unfold maxLen; omega) (by omega) (by omega) ?_
              intro A3 c3 Wy4 hoy4 hgy4 hay4
              have HBy4 := Lib.hid (HBy3.out.grown hgy4 hzzy4 (fun q e => by have := (HA2.out.bk' (ob_bk e)).1; omega))
              have Hb3 := Lib.hid ((hgy4.block _ (blk_lt Hb'.out) (fun e => HN2.out (ob_bk e.symm))).trans Hb'.out)
              have hlb3 := blk_lt Hb'.out
              have HN3 : Hid (¬ BK A3 b) := Lib.hid (fun hq => (hay4 b hq).elim HN2.out (fun h => by omega))
              have HA3 := Lib.hid hoy4
              clear hoy4 hgy4 hay4
              refine hKy4.out _ _ (bcell HBy4.out t2) (fun hy4 => ?_)
              try simp only [Act.put, List.setIfInBounds_toArray, List.set_cons_zero, List.set_cons_succ]
              refine wpAnyH_take (i := 23) (oi := ⟨some 14, _, _, _, _, _⟩) (v := ?vy4tn5i23) rfl (by kernel_rfl) (by kernel_rfl) (by kernel_rfl) (fun _ _ _ h => h) (Or.inl ⟨by rfl, ?hyy4tn5i23⟩) (by exact hy4) ?rey4tn5i23
              case hyy4tn5i23 => (intro ww hSw; (try dsimp only at hSw); go_simp; first | done | with_reducible rfl)
              try simp only [Act.put, List.setIfInBounds_toArray, List.set_cons_zero, List.set_cons_succ]
              refine wpAnyH_done (by kernel_rfl) ?_ _
              go_wp2_with fail
              go_meet
              refine ⟨A3, c3, b, ?_, ?_, Hb3.out, HBy4.out, by omega, HN3.out⟩
              · congr 1 <;> (have := HDL.out; have := HTK.out; omega)
              · have := HA3.out; rw [List.append_assoc] at this; exact this
            case moy1 =>
              refine AllReadyH.cons (o := ⟨some 127, _, _, _, _, _⟩) rfl (fun Ky1 hKy1 => ?_) AllReadyH.nil
              go_simp
              have Hqy1 := Lib.hid (alloc_new Wy0 (.cells #[.int .i64 to_, .bool false, .int .i64 0, .int .i64 0, .int .i64 0, .slice (some ⟨b, 0, none⟩) 1 1, .int .i64 1, .int .i64 now, .int .i64 now] 111))
              have HBy1 := Lib.hid (below_alloc (o := .cells #[.int .i64 to_, .bool false, .int .i64 0, .int .i64 0, .int .i64 0, .slice (some ⟨b, 0, none⟩) 1 1, .int .i64 1, .int .i64 now, .int .i64 now] 111) HBy0.out)
              have hzy1 := HBy0.out.size
              have Hb := Lib.hid (block_alloc Hb.out (.cells #[.int .i64 to_, .bool false, .int .i64 0, .int .i64 0, .int .i64 0, .slice (some ⟨b, 0, none⟩) 1 1, .int .i64 1, .int .i64 now, .int .i64 now] 111))
              obtain ⟨b2, hb2e⟩ : ∃ b2, Wy0.heap.size = b2 := ⟨_, rfl⟩
              rw [hb2e] at Hqy1 hzy1 ⊢
              have Hb2 := Hqy1; clear Hqy1
              generalize Wy0.alloc (.cells #[.int .i64 to_, .bool false, .int .i64 0, .int .i64 0, .int .i64 0, .slice (some ⟨b, 0, none⟩) 1 1, .int .i64 1, .int .i64 now, .int .i64 now] 111) = Wy1 at *
              refine hKy1.out _ _ (bcell HBy1.out t2) (fun hy1 => ?_)
              try simp only [Act.put, List.setIfInBounds_toArray, List.set_cons_zero, List.set_cons_succ]
              refine wpAnyH_ready (rs := [7]) (by kernel_rfl) (by simp) ?_
              refine AllReadyH.cons (o := ⟨some 120, _, _, _, _, _⟩) rfl (fun Ky2 hKy2 => ?_) AllReadyH.nil
              have hzzy2 := HBy1.out.size
              refine step_app rfl (.tmp 113) (.tmp 119) 107 rfl (SRow.nil 111 9 Re.cells Wy1 w1.heap.size) Re.len i0' _ 88 Try.underlying107 HI0.out HZ0.out HZ1.out HZ2.out rfl (by decide) 0 rfl _ _ _ LA rfl rfl HTK.out (by first | exact HB1.out _ HBy1.out | exact fun h => absurd h (by omega)) (re_one _) (by unfold maxLen; omega) (by omega) (by omega) ?_
              intro A1 c1 Wy2 hoy2 hgy2 hay2
              have HBy2 := Lib.hid (HBy1.out.grown hgy2 hzzy2 (fun q e => by simp [Value.ownBlock] at e))
              have HA := Lib.hid (show EnRow Wy2 w1.heap.size A1 c1 LA by simpa using hoy2)
              have HAq := Lib.hid (fun q (hq : BK A1 q) => (hay2 q hq).resolve_left (bk_none q))
              have hltby2 := blk_lt Hb.out
              have Hb := Lib.hid ((hgy2.block _ (blk_lt Hb.out) (fun e => by simp [Value.ownBlock] at e)).trans Hb.out)
              have HNb : Hid (¬ BK A1 b) := Lib.hid (fun hq => by have := HAq.out _ hq; omega)
              have hltb2y2 := blk_lt Hb2.out
              have Hb2 := Lib.hid ((hgy2.block _ (blk_lt Hb2.out) (fun e => by simp [Value.ownBlock] at e)).trans Hb2.out)
              have HNb2 : Hid (¬ BK A1 b2) := Lib.hid (fun hq => by have := HAq.out _ hq; omega)
              clear hgy2 hay2 hoy2
              refine hKy2.out _ _ (bcell HBy2.out t2) (fun hy2 => ?_)
              try simp only [Act.put, List.setIfInBounds_toArray, List.set_cons_zero, List.set_cons_succ]
              have HAlt := Lib.hid (fun q (hq : BK A1 q) => (HA.out.bk' hq).2)
              refine wpAnyH_ready (rs := [15]) (by kernel_rfl) (by simp) ?_
              refine AllReadyH.cons (o := ⟨some 128, _, _, _, _, _⟩) rfl (fun Ky3 hKy3 => ?_) AllReadyH.nil
              have hzzy3 := HBy2.out.size
              have hE : Hid (([⟨to_, .inc [s] 1 now now, some ⟨b, 0, none⟩, 1⟩] : List Re).flatMap Re.cells = [.int .i64 to_, .bool false, .int .i64 0, .int .i64 0, .int .i64 0, .slice (some ⟨b, 0, none⟩) 1 1, .int .i64 1, .int .i64 now, .int .i64 now]) := Lib.hid rfl
              refine step_app rfl (.tmp 120) (.tmp 127) 107 rfl HA.out Re.len i0' _ 88 Try.underlying107 HI0.out HZ0.out HZ1.out HZ2.out rfl (by decide) _ (by first | exact HTK.out | (have := HTK.out; omega)) _ _ _ [⟨to_, .inc [s] 1 now now, some ⟨b, 0, none⟩, 1⟩] rfl rfl rfl (fun _ => ⟨_, rfl, by rw [hE.out]; exact World.news_of_block Hb2.out⟩) (re_one _) (by unfold maxLen; omega) (by omega) (by omega) ?_
              intro A2 c2 Wy3 hoy3 hgy3 hay3
              have HBy3 := Lib.hid (HBy2.out.grown hgy3 hzzy3 (fun q e => by have := (HA.out.bk' (ob_bk e)).1; omega))
              have Hb' := Lib.hid ((hgy3.block _ (blk_lt Hb.out) (fun e => HNb.out (ob_bk e.symm))).trans Hb.out)
              have hlb := blk_lt Hb.out
              have HN2 : Hid (¬ BK A2 b) := Lib.hid (fun hq => (hay3 b hq).elim HNb.out (fun h => by omega))
              have HA2 := Lib.hid hoy3
              clear hoy3 hgy3 hay3
              refine hKy3.out _ _ (bcell HBy3.out t2) (fun hy3 => ?_)
              try simp only [Act.put, List.setIfInBounds_toArray, List.set_cons_zero, List.set_cons_succ]
              refine wpAnyH_ready (rs := [22]) (by kernel_rfl) (by simp) ?_
              refine AllReadyH.cons (o := ⟨some 135, _, _, _, _, _⟩) rfl (fun Ky4 hKy4 => ?_) AllReadyH.nil
              have hzzy4 := HBy3.out.size
              have hl2 : Hid ((LA ++ [(⟨to_, .inc [s] 1 now now, some ⟨b, 0, none⟩, 1⟩ : Re)]).length = LA.length + 1) := Lib.hid (by simp)
              refine step_app rfl (.tmp 128) (.tmp 134) 107 rfl HA2.out Re.len i0' _ 88 Try.underlying107 HI0.out HZ0.out HZ1.out HZ2.out rfl (by decide) _ (by rw [hl2.out, HTK.out] <;> omega) _ _ _ LB rfl rfl (by first | exact HDL.out | (have := HDL.out; omega)) (by first | exact HB2.out _ HBy3.out | exact fun h => absurd h (by omega)) (re_one _) (by unfold maxLen; omega) (by omega) (by omega) ?_
              intro A3 c3 Wy4 hoy4 hgy4 hay4
              have HBy4 := Lib.hid (HBy3.out.grown hgy4 hzzy4 (fun q e => by have := (HA2.out.bk' (ob_bk e)).1; omega))
              have Hb3 := Lib.hid ((hgy4.block _ (blk_lt Hb'.out) (fun e => HN2.out (ob_bk e.symm))).trans Hb'.out)
              have hlb3 := blk_lt Hb'.out
              have HN3 : Hid (¬ BK A3 b) := Lib.hid (fun hq => (hay4 b hq).elim HN2.out (fun h => by omega))
              have HA3 := Lib.hid hoy4
              clear hoy4 hgy4 hay4
              refine hKy4.out _ _ (bcell HBy4.out t2) (fun hy4 => ?_)
              try simp only [Act.put, List.setIfInBounds_toArray, List.set_cons_zero, List.set_cons_succ]
              refine wpAnyH_take (i := 23) (oi := ⟨some 14, _, _, _, _, _⟩) (v := ?vy4tn7i23) rfl (by kernel_rfl) (by kernel_rfl) (by kernel_rfl) (fun _ _ _ h => h) (Or.inl ⟨by rfl, ?hyy4tn7i23⟩) (by exact hy4) ?rey4tn7i23
              case hyy4tn7i23 => (intro ww hSw; (try dsimp only at hSw); go_simp; first | done | with_reducible rfl)
              try simp only [Act.put, List.setIfInBounds_toArray, List.set_cons_zero, List.set_cons_succ]
              refine wpAnyH_done (by kernel_rfl) ?_ _
              go_wp2_with fail
              go_meet
              refine ⟨A3, c3, b, ?_, ?_, Hb3.out, HBy4.out, by omega, HN3.out⟩
              · congr 1 <;> (have := HDL.out; have := HTK.out; omega)
              · have := HA3.out; rw [List.append_assoc] at this; exact this
        · have HB1 : Hid (∀ W' : World, Below w1.heap.size w1 W' → 0 < i → ∃ ad, some (⟨g, 0, none⟩ : Addr) = some ad ∧ ∀ j u, (LA.flatMap Re.cells)[j]? = some u → W'.cell? (ad.add j) = some u) := Lib.hid (fun W' hb _ => ⟨_, rfl, by rw [← HLA.out]; exact take_cells (HROW1.out.below hb) i⟩)
          have HB2 : Hid (∀ W' : World, Below w1.heap.size w1 W' → 0 < n1 - i → ∃ ad, some (⟨g, i * 9, none⟩ : Addr) = some ad ∧ ∀ j u, (LB.flatMap Re.cells)[j]? = some u → W'.cell? (ad.add j) = some u) := Lib.hid (fun W' hb _ => ⟨_, rfl, by rw [← HLB.out]; exact drop_cells (HROW1.out.below hb) i (by rw [HN1.out]; omega)⟩)
          rcases hor with hdi | hdi
          · skip
            refine wp_region_held_drew (S := fun w' => w'.cell? ⟨T, 2, none⟩ = some (.slice (some ⟨g, 0, none⟩) n1 d2)) (by kernel_rfl) (by rw [hw0]; exact ht2.out) ?_
            rw [hw0]
            intro hS
            clear hw0 t2 t2'
            have t2 := ht21.out
            refine wpAnyH_take (i := 0) (oi := ⟨some 113, _, _, _, _, _⟩) (v := ?van8i0) rfl (by kernel_rfl) (by kernel_rfl) (by kernel_rfl) (fun _ _ _ h => h) (Or.inl ⟨by rfl, ?hyan8i0⟩) (by exact hS) ?rean8i0
            case hyan8i0 => (intro ww hSw; (try dsimp only at hSw); go_simp; first | done | with_reducible rfl)
            try simp only [Act.put, List.setIfInBounds_toArray, List.set_cons_zero, List.set_cons_succ]
            refine wpAnyH_take (i := 1) (oi := ⟨some 114, _, _, _, _, _⟩) (v := ?van8i1) rfl (by kernel_rfl) (by kernel_rfl) (by kernel_rfl) (fun _ _ _ h => h) (Or.inl ⟨by rfl, ?hyan8i1⟩) (by exact hS) ?rean8i1
            case hyan8i1 => (intro ww hSw; (try dsimp only at hSw); go_simp; first | done | with_reducible rfl)
            try simp only [Act.put, List.setIfInBounds_toArray, List.set_cons_zero, List.set_cons_succ]
            refine wpAnyH_take (i := 2) (oi := ⟨some 115, _, _, _, _, _⟩) (v := ?van8i2) rfl (by kernel_rfl) (by kernel_rfl) (by kernel_rfl) (fun _ _ _ h => h) (Or.inl ⟨by rfl, ?hyan8i2⟩) (by exact hS) ?rean8i2
            case hyan8i2 => (intro ww hSw; (try dsimp only at hSw); go_simp; first | done | with_reducible rfl)
            try simp only [Act.put, List.setIfInBounds_toArray, List.set_cons_zero, List.set_cons_succ]
            refine wpAnyH_take (i := 3) (oi := ⟨some 116, _, _, _, _, _⟩) (v := ?van8i3) rfl (by kernel_rfl) (by kernel_rfl) (by kernel_rfl) (fun _ _ _ h => h) (Or.inl ⟨by rfl, ?hyan8i3⟩) (by exact hS) ?rean8i3
            case hyan8i3 => (intro ww hSw; (try dsimp only at hSw); go_simp; first | done | with_reducible rfl)
            try simp only [Act.put, List.setIfInBounds_toArray, List.set_cons_zero, List.set_cons_succ]
            refine wpAnyH_take (i := 4) (oi := ⟨some 117, _, _, _, _, _⟩) (v := ?van8i4) rfl (by kernel_rfl) (by kernel_rfl) (by kernel_rfl) (fun _ _ _ h => h) (Or.inl ⟨by rfl, ?hyan8i4⟩) (by exact hS) ?rean8i4
            case hyan8i4 => (intro ww hSw; (try dsimp only at hSw); go_simp; first | done | with_reducible rfl)
            try simp only [Act.put, List.setIfInBounds_toArray, List.set_cons_zero, List.set_cons_succ]
            refine wpAnyH_take (i := 5) (oi := ⟨some 118, _, _, _, _, _⟩) (v := ?van8i5) rfl (by kernel_rfl) (by kernel_rfl) (by kernel_rfl) (fun _ _ _ h => h) (Or.inl ⟨by rfl, ?hyan8i5⟩) (by exact hS) ?rean8i5
            case hyan8i5 => (intro ww hSw; (try dsimp only at hSw); go_simp; first | done | with_reducible rfl)
            try simp only [Act.put, List.setIfInBounds_toArray, List.set_cons_zero, List.set_cons_succ]
            refine wpAnyH_take (i := 6) (oi := ⟨some 119, _, _, _, _, _⟩) (v := ?van8i6) rfl (by kernel_rfl) (by kernel_rfl) (by kernel_rfl) (fun _ _ _ h => h) (Or.inl ⟨by rfl, ?hyan8i6⟩) (by exact hS) ?rean8i6
            case hyan8i6 => (intro ww hSw; (try dsimp only at hSw); go_simp; first | done | with_reducible rfl)
            try simp only [Act.put, List.setIfInBounds_toArray, List.set_cons_zero, List.set_cons_succ]
            refine wpAnyH_take (i := 8) (oi := ⟨some 121, _, _, _, _, _⟩) (v := ?van8i8) rfl (by kernel_rfl) (by kernel_rfl) (by kernel_rfl) (fun _ _ _ h => h) (Or.inl ⟨by rfl, ?hyan8i8⟩) (by exact hS) ?rean8i8
            case hyan8i8 => (intro ww hSw; (try dsimp only at hSw); go_simp; first | done | with_reducible rfl)
            try simp only [Act.put, List.setIfInBounds_toArray, List.set_cons_zero, List.set_cons_succ]
            refine wpAnyH_take (i := 9) (oi := ⟨some 122, _, _, _, _, _⟩) (v := ?van8i9) rfl (by kernel_rfl) (by kernel_rfl) (by kernel_rfl) (fun _ _ _ h => h) (Or.inl ⟨by rfl, ?hyan8i9⟩) (by exact hS) ?rean8i9
            case hyan8i9 => (intro ww hSw; (try dsimp only at hSw); go_simp; first | done | with_reducible rfl)
            try simp only [Act.put, List.setIfInBounds_toArray, List.set_cons_zero, List.set_cons_succ]
            refine wpAnyH_take (i := 11) (oi := ⟨some 124, _, _, _, _, _⟩) (v := ?van8i11) rfl (by kernel_rfl) (by kernel_rfl) (by kernel_rfl) (fun _ _ _ h => h) (Or.inl ⟨by rfl, ?hyan8i11⟩) (by exact hS) ?rean8i11
            case hyan8i11 => (intro ww hSw; (try dsimp only at hSw); go_simp; first | done | with_reducible rfl)
            try simp only [Act.put, List.setIfInBounds_toArray, List.set_cons_zero, List.set_cons_succ]
            refine wpAnyH_take (i := 12) (oi := ⟨some 125, _, _, _, _, _⟩) (v := ?van8i12) rfl (by kernel_rfl) (by kernel_rfl) (by kernel_rfl) (fun _ _ _ h => h) (Or.inl ⟨by rfl, ?hyan8i12⟩) (by exact hS) ?rean8i12
            case hyan8i12 => (intro ww hSw; (try dsimp only at hSw); go_simp; first | done | with_reducible rfl)
            try simp only [Act.put, List.setIfInBounds_toArray, List.set_cons_zero, List.set_cons_succ]
            refine wpAnyH_take (i := 16) (oi := ⟨some 129, _, _, _, _, _⟩) (v := ?van8i16) rfl (by kernel_rfl) (by kernel_rfl) (by kernel_rfl) (fun _ _ _ h => h) (Or.inl ⟨by rfl, ?hyan8i16⟩) (by exact hS) ?rean8i16
            case hyan8i16 => (intro ww hSw; (try dsimp only at hSw); go_simp; first | done | with_reducible rfl)
            try simp only [Act.put, List.setIfInBounds_toArray, List.set_cons_zero, List.set_cons_succ]
            refine wpAnyH_take (i := 17) (oi := ⟨some 130, _, _, _, _, _⟩) (v := ?van8i17) rfl (by kernel_rfl) (by kernel_rfl) (by kernel_rfl) (fun _ _ _ h => h) (Or.inl ⟨by rfl, ?hyan8i17⟩) (by exact hS) ?rean8i17
            case hyan8i17 => (intro ww hSw; (try dsimp only at hSw); go_simp; first | done | with_reducible rfl)
            try simp only [Act.put, List.setIfInBounds_toArray, List.set_cons_zero, List.set_cons_succ]
            refine wpAnyH_take (i := 18) (oi := ⟨some 131, _, _, _, _, _⟩) (v := ?van8i18) rfl (by kernel_rfl) (by kernel_rfl) (by kernel_rfl) (fun _ _ _ h => h) (Or.inl ⟨by rfl, ?hyan8i18⟩) (by exact hS) ?rean8i18
            case hyan8i18 => (intro ww hSw; (try dsimp only at hSw); go_simp; first | done | with_reducible rfl)
            try simp only [Act.put, List.setIfInBounds_toArray, List.set_cons_zero, List.set_cons_succ]
            refine wpAnyH_take (i := 19) (oi := ⟨some 132, _, _, _, _, _⟩) (v := ?van8i19) rfl (by kernel_rfl) (by kernel_rfl) (by kernel_rfl) (fun _ _ _ h => h) (Or.inl ⟨by rfl, ?hyan8i19⟩) (by exact hS) ?rean8i19
            case hyan8i19 => (intro ww hSw; (try dsimp only at hSw); go_simp; first | done | with_reducible rfl)
            try simp only [Act.put, List.setIfInBounds_toArray, List.set_cons_zero, List.set_cons_succ]
            refine wpAnyH_take (i := 20) (oi := ⟨some 133, _, _, _, _, _⟩) (v := ?van8i20) rfl (by kernel_rfl) (by kernel_rfl) (by kernel_rfl) (fun _ _ _ h => h) (Or.inl ⟨by rfl, ?hyan8i20⟩) (by exact hS) ?rean8i20
            case hyan8i20 => (intro ww hSw; (try dsimp only at hSw); go_simp; first | done | with_reducible rfl)
            try simp only [Act.put, List.setIfInBounds_toArray, List.set_cons_zero, List.set_cons_succ]
            refine wpAnyH_take (i := 21) (oi := ⟨some 134, _, _, _, _, _⟩) (v := ?van8i21) rfl (by kernel_rfl) (by kernel_rfl) (by kernel_rfl) (fun _ _ _ h => h) (Or.inl ⟨by rfl, ?hyan8i21⟩) (by exact hS) ?rean8i21
            case hyan8i21 => (intro ww hSw; (try dsimp only at hSw); go_simp; first | done | with_reducible rfl)
            try simp only [Act.put, List.setIfInBounds_toArray, List.set_cons_zero, List.set_cons_succ]
            refine wpAnyH_ready (rs := [7, 10]) (by kernel_rfl) (by simp) ?_
            refine AllReadyH.cons (o := ⟨some 120, _, _, _, _, _⟩) rfl (fun Kx0 hKx0 => ?stx0) ?mox0
            case stx0 =>
              have hzzx0 := HB0.out.size
              refine step_app rfl (.tmp 113) (.tmp 119) 107 rfl (SRow.nil 111 9 Re.cells w0 w1.heap.size) Re.len i0' _ 88 Try.underlying107 HI0.out HZ0.out HZ1.out HZ2.out rfl (by decide) 0 rfl _ _ _ LA rfl rfl HTK.out (by first | exact HB1.out _ HB0.out | exact fun h => absurd h (by omega)) (re_one _) (by unfold maxLen; omega) (by omega) (by omega) ?_
              intro A1 c1 Wx0 hox0 hgx0 hax0
              have HBx0 := Lib.hid (HB0.out.grown hgx0 hzzx0 (fun q e => by simp [Value.ownBlock] at e))
              have HA := Lib.hid (show EnRow Wx0 w1.heap.size A1 c1 LA by simpa using hox0)
              have HAq := Lib.hid (fun q (hq : BK A1 q) => (hax0 q hq).resolve_left (bk_none q))
              clear hgx0 hax0 hox0
              refine hKx0.out _ _ (bcell HBx0.out t2) (fun hx0 => ?_)
              try simp only [Act.put, List.setIfInBounds_toArray, List.set_cons_zero, List.set_cons_succ]
              have HAlt := Lib.hid (fun q (hq : BK A1 q) => (HA.out.bk' hq).2)
              refine wpAnyH_ready (rs := [10]) (by kernel_rfl) (by simp) ?_
              refine AllReadyH.cons (o := ⟨some 123, _, _, _, _, _⟩) rfl (fun Kx1 hKx1 => ?_) AllReadyH.nil
              go_simp
              have Hqx1 := Lib.hid (alloc_new Wx0 (.cells #[.string s] 9))
              have HBx1 := Lib.hid (below_alloc (o := .cells #[.string s] 9) HBx0.out)
              have hzx1 := HBx0.out.size
              have hHA := HA.out.below ((Below.refl Wx0.heap.size Wx0).alloc (Nat.le_refl _) (.cells #[.string s] 9))
              have HA := Lib.hid hHA; clear hHA
              have HNb : Hid (¬ BK A1 Wx0.heap.size) := Lib.hid (fun hq => by have := HAlt.out _ hq; omega)
              obtain ⟨b, hbe⟩ : ∃ b, Wx0.heap.size = b := ⟨_, rfl⟩
              rw [hbe] at Hqx1 hzx1 HNb ⊢
              have Hb := Hqx1; clear Hqx1
              generalize Wx0.alloc (.cells #[.string s] 9) = Wx1 at *
              refine hKx1.out _ _ (bcell HBx1.out t2) (fun hx1 => ?_)
              try simp only [Act.put, List.setIfInBounds_toArray, List.set_cons_zero, List.set_cons_succ]
              have HAlt := Lib.hid (fun q (hq : BK A1 q) => (HA.out.bk' hq).2)
              refine wpAnyH_take (i := 13) (oi := ⟨some 126, _, _, _, _, _⟩) (v := ?vx1tn9i13) rfl (by kernel_rfl) (by kernel_rfl) (by kernel_rfl) (fun _ _ _ h => h) (Or.inl ⟨by rfl, ?hyx1tn9i13⟩) (by exact hx1) ?rex1tn9i13
              case hyx1tn9i13 => (intro ww hSw; (try dsimp only at hSw); go_simp; first | done | with_reducible rfl)
              try simp only [Act.put, List.setIfInBounds_toArray, List.set_cons_zero, List.set_cons_succ]
              refine wpAnyH_ready (rs := [14]) (by kernel_rfl) (by simp) ?_
              refine AllReadyH.cons (o := ⟨some 127, _, _, _, _, _⟩) rfl (fun Kx2 hKx2 => ?_) AllReadyH.nil
              go_simp
              have Hqx2 := Lib.hid (alloc_new Wx1 (.cells #[.int .i64 to_, .bool false, .int .i64 0, .int .i64 0, .int .i64 0, .slice (some ⟨b, 0, none⟩) 1 1, .int .i64 1, .int .i64 now, .int .i64 now] 111))
              have HBx2 := Lib.hid (below_alloc (o := .cells #[.int .i64 to_, .bool false, .int .i64 0, .int .i64 0, .int .i64 0, .slice (some ⟨b, 0, none⟩) 1 1, .int .i64 1, .int .i64 now, .int .i64 now] 111) HBx1.out)
              have hzx2 := HBx1.out.size
              have hHA := HA.out.below ((Below.refl Wx1.heap.size Wx1).alloc (Nat.le_refl _) (.cells #[.int .i64 to_, .bool false, .int .i64 0, .int .i64 0, .int .i64 0, .slice (some ⟨b, 0, none⟩) 1 1, .int .i64 1, .int .i64 now, .int .i64 now] 111))
              have HA := Lib.hid hHA; clear hHA
              have HNb2 : Hid (¬ BK A1 Wx1.heap.size) := Lib.hid (fun hq => by have := HAlt.out _ hq; omega)
              have Hb := Lib.hid (block_alloc Hb.out (.cells #[.int .i64 to_, .bool false, .int .i64 0, .int .i64 0, .int .i64 0, .slice (some ⟨b, 0, none⟩) 1 1, .int .i64 1, .int .i64 now, .int .i64 now] 111))
              obtain ⟨b2, hb2e⟩ : ∃ b2, Wx1.heap.size = b2 := ⟨_, rfl⟩
              rw [hb2e] at Hqx2 hzx2 HNb2 ⊢
              have Hb2 := Hqx2; clear Hqx2
              generalize Wx1.alloc (.cells #[.int .i64 to_, .bool false, .int .i64 0, .int .i64 0, .int .i64 0, .slice (some ⟨b, 0, none⟩) 1 1, .int .i64 1, .int .i64 now, .int .i64 now] 111) = Wx2 at *
              refine hKx2.out _ _ (bcell HBx2.out t2) (fun hx2 => ?_)
              try simp only [Act.put, List.setIfInBounds_toArray, List.set_cons_zero, List.set_cons_succ]
              have HAlt := Lib.hid (fun q (hq : BK A1 q) => (HA.out.bk' hq).2)
              refine wpAnyH_ready (rs := [15]) (by kernel_rfl) (by simp) ?_
              refine AllReadyH.cons (o := ⟨some 128, _, _, _, _, _⟩) rfl (fun Kx3 hKx3 => ?_) AllReadyH.nil
              have hzzx3 := HBx2.out.size
              have hE : Hid (([⟨to_, .inc [s] 1 now now, some ⟨b, 0, none⟩, 1⟩] : List Re).flatMap Re.cells = [.int .i64 to_, .bool false, .int .i64 0, .int .i64 0, .int .i64 0, .slice (some ⟨b, 0, none⟩) 1 1, .int .i64 1, .int .i64 now, .int .i64 now]) := Lib.hid rfl
              refine step_app rfl (.tmp 120) (.tmp 127) 107 rfl HA.out Re.len i0' _ 88 Try.underlying107 HI0.out HZ0.out HZ1.out HZ2.out rfl (by decide) _ (by first | exact HTK.out | (have := HTK.out; omega)) _ _ _ [⟨to_, .inc [s] 1 now now, some ⟨b, 0, none⟩, 1⟩] rfl rfl rfl (fun _ => ⟨_, rfl, by rw [hE.out]; exact World.news_of_block Hb2.out⟩) (re_one _) (by unfold maxLen; omega) (by omega) (by omega) ?_
              intro A2 c2 Wx3 hox3 hgx3 hax3
              have HBx3 := Lib.hid (HBx2.out.grown hgx3 hzzx3 (fun q e => by have := (HA.out.bk' (ob_bk e)).1; omega))
              have Hb' := Lib.hid ((hgx3.block _ (blk_lt Hb.out) (fun e => HNb.out (ob_bk e.symm))).trans Hb.out)
              have hlb := blk_lt Hb.out
              have HN2 : Hid (¬ BK A2 b) := Lib.hid (fun hq => (hax3 b hq).elim HNb.out (fun h => by omega))
              have HA2 := Lib.hid hox3
              clear hox3 hgx3 hax3
              refine hKx3.out _ _ (bcell HBx3.out t2) (fun hx3 => ?_)
              try simp only [Act.put, List.setIfInBounds_toArray, List.set_cons_zero, List.set_cons_succ]
              refine wpAnyH_ready (rs := [22]) (by kernel_rfl) (by simp) ?_
              refine AllReadyH.cons (o := ⟨some 135, _, _, _, _, _⟩) rfl (fun Kx4 hKx4 => ?_) AllReadyH.nil
              have hzzx4 := HBx3.out.size
              have hl2 : Hid ((LA ++ [(⟨to_, .inc [s] 1 now now, some ⟨b, 0, none⟩, 1⟩ : Re)]).length = LA.length + 1) := Lib.hid (by simp)
              refine step_app rfl (.tmp 128) (.tmp 134) 107 rfl HA2.out Re.len i0' _ 88 Try.underlying107 HI0.out HZ0.out HZ1.out HZ2.out rfl (by decide) _ (by rw [hl2.out, HTK.out] <;> omega) _ _ _ LB rfl rfl (by first | exact HDL.out | (have := HDL.out; omega)) (by first | exact HB2.out _ HBx3.out | exact fun h => absurd h (by omega)) (re_one _) (by unfold maxLen; omega) (by omega) (by omega) ?_
              intro A3 c3 Wx4 hox4 hgx4 hax4
              have HBx4 := Lib.hid (HBx3.out.grown hgx4 hzzx4 (fun q e => by have := (HA2.out.bk' (ob_bk e)).1; omega))
              have Hb3 := Lib.hid ((hgx4.block _ (blk_lt Hb'.out) (fun e => HN2.out (ob_bk e.symm))).trans Hb'.out)
              have hlb3 := blk_lt Hb'.out
              have HN3 : Hid (¬ BK A3 b) := Lib.hid (fun hq => (hax4 b hq).elim HN2.out (fun h => by omega))
              have HA3 := Lib.hid hox4
              clear hox4 hgx4 hax4
              refine hKx4.out _ _ (bcell HBx4.out t2) (fun hx4 => ?_)
              try simp only [Act.put, List.setIfInBounds_toArray, List.set_cons_zero, List.set_cons_succ]
              refine wpAnyH_take (i := 23) (oi := ⟨some 14, _, _, _, _, _⟩) (v := ?vx4tn10i23) rfl (by kernel_rfl) (by kernel_rfl) (by kernel_rfl) (fun _ _ _ h => h) (Or.inl ⟨by rfl, ?hyx4tn10i23⟩) (by exact hx4) ?rex4tn10i23
              case hyx4tn10i23 => (intro ww hSw; (try dsimp only at hSw); go_simp; first | done | with_reducible rfl)
              try simp only [Act.put, List.setIfInBounds_toArray, List.set_cons_zero, List.set_cons_succ]
              refine wpAnyH_done (by kernel_rfl) ?_ _
              go_wp2_with fail
              go_meet
              refine ⟨A3, c3, b, ?_, ?_, Hb3.out, HBx4.out, by omega, HN3.out⟩
              · congr 1 <;> (have := HDL.out; have := HTK.out; omega)
              · have := HA3.out; rw [List.append_assoc] at this; exact this
            case mox0 =>
              refine AllReadyH.cons (o := ⟨some 123, _, _, _, _, _⟩) rfl (fun Ky0 hKy0 => ?_) AllReadyH.nil
              go_simp
              have Hqy0 := Lib.hid (alloc_new w0 (.cells #[.string s] 9))
              have HBy0 := Lib.hid (below_alloc (o := .cells #[.string s] 9) HB0.out)
              have hzy0 := HB0.out.size
              obtain ⟨b, hbe⟩ : ∃ b, w0.heap.size = b := ⟨_, rfl⟩
              rw [hbe] at Hqy0 hzy0 ⊢
              have Hb := Hqy0; clear Hqy0
              generalize w0.alloc (.cells #[.string s] 9) = Wy0 at *
              refine hKy0.out _ _ (bcell HBy0.out t2) (fun hy0 => ?_)
              try simp only [Act.put, List.setIfInBounds_toArray, List.set_cons_zero, List.set_cons_succ]
              refine wpAnyH_take (i := 13) (oi := ⟨some 126, _, _, _, _, _⟩) (v := ?vy0tn11i13) rfl (by kernel_rfl) (by kernel_rfl) (by kernel_rfl) (fun _ _ _ h => h) (Or.inl ⟨by rfl, ?hyy0tn11i13⟩) (by exact hy0) ?rey0tn11i13
              case hyy0tn11i13 => (intro ww hSw; (try dsimp only at hSw); go_simp; first | done | with_reducible rfl)
              try simp only [Act.put, List.setIfInBounds_toArray, List.set_cons_zero, List.set_cons_succ]
              refine wpAnyH_ready (rs := [7, 14]) (by kernel_rfl) (by simp) ?_
              refine AllReadyH.cons (o := ⟨some 120, _, _, _, _, _⟩) rfl (fun Ky1 hKy1 => ?sty1) ?moy1
              case sty1 =>
                have hzzy1 := HBy0.out.size
                refine step_app rfl (.tmp 113) (.tmp 119) 107 rfl (SRow.nil 111 9 Re.cells Wy0 w1.heap.size) Re.len i0' _ 88 Try.underlying107 HI0.out HZ0.out HZ1.out HZ2.out rfl (by decide) 0 rfl _ _ _ LA rfl rfl HTK.out (by first | exact HB1.out _ HBy0.out | exact fun h => absurd h (by omega)) (re_one _) (by unfold maxLen; omega) (by omega) (by omega) ?_
                intro A1 c1 Wy1 hoy1 hgy1 hay1
                have HBy1 := Lib.hid (HBy0.out.grown hgy1 hzzy1 (fun q e => by simp [Value.ownBlock] at e))
                have HA := Lib.hid (show EnRow Wy1 w1.heap.size A1 c1 LA by simpa using hoy1)
                have HAq := Lib.hid (fun q (hq : BK A1 q) => (hay1 q hq).resolve_left (bk_none q))
                have hltby1 := blk_lt Hb.out
                have Hb := Lib.hid ((hgy1.block _ (blk_lt Hb.out) (fun e => by simp [Value.ownBlock] at e)).trans Hb.out)
                have HNb : Hid (¬ BK A1 b) := Lib.hid (fun hq => by have := HAq.out _ hq; omega)
                clear hgy1 hay1 hoy1
                refine hKy1.out _ _ (bcell HBy1.out t2) (fun hy1 => ?_)
                try simp only [Act.put, List.setIfInBounds_toArray, List.set_cons_zero, List.set_cons_succ]
                have HAlt := Lib.hid (fun q (hq : BK A1 q) => (HA.out.bk' hq).2)
                refine wpAnyH_ready (rs := [14]) (by kernel_rfl) (by simp) ?_
                refine AllReadyH.cons (o := ⟨some 127, _, _, _, _, _⟩) rfl (fun Ky2 hKy2 => ?_) AllReadyH.nil
                go_simp
                have Hqy2 := Lib.hid (alloc_new Wy1 (.cells #[.int .i64 to_, .bool false, .int .i64 0, .int .i64 0, .int .i64 0, .slice (some ⟨b, 0, none⟩) 1 1, .int .i64 1, .int .i64 now, .int .i64 now] 111))
                have HBy2 := Lib.hid (below_alloc (o := .cells #[.int .i64 to_, .bool false, .int .i64 0, .int .i64 0, .int .i64 0, .slice (some ⟨b, 0, none⟩) 1 1, .int .i64 1, .int .i64 now, .int .i64 now] 111) HBy1.out)
                have hzy2 := HBy1.out.size
                have hHA := HA.out.below ((Below.refl Wy1.heap.size Wy1).alloc (Nat.le_refl _) (.cells #[.int .i64 to_, .bool false, .int .i64 0, .int .i64 0, .int .i64 0, .slice (some ⟨b, 0, none⟩) 1 1, .int .i64 1, .int .i64 now, .int .i64 now] 111))
                have HA := Lib.hid hHA; clear hHA
                have HNb2 : Hid (¬ BK A1 Wy1.heap.size) := Lib.hid (fun hq => by have := HAlt.out _ hq; omega)
                have Hb := Lib.hid (block_alloc Hb.out (.cells #[.int .i64 to_, .bool false, .int .i64 0, .int .i64 0, .int .i64 0, .slice (some ⟨b, 0, none⟩) 1 1, .int .i64 1, .int .i64 now, .int .i64 now] 111))
                obtain ⟨b2, hb2e⟩ : ∃ b2, Wy1.heap.size = b2 := ⟨_, rfl⟩
                rw [hb2e] at Hqy2 hzy2 HNb2 ⊢
                have Hb2 := Hqy2; clear Hqy2
                generalize Wy1.alloc (.cells #[.int .i64 to_, .bool false, .int .i64 0, .int .i64 0, .int .i64 0, .slice (some ⟨b, 0, none⟩) 1 1, .int .i64 1, .int .i64 now, .int .i64 now] 111) = Wy2 at *
                refine hKy2.out _ _ (bcell HBy2.out t2) (fun hy2 => ?_)
                try simp only [Act.put, List.setIfInBounds_toArray, List.set_cons_zero, List.set_cons_succ]
                have HAlt := Lib.hid (fun q (hq : BK A1 q) => (HA.out.bk' hq).2)
                refine wpAnyH_ready (rs := [15]) (by kernel_rfl) (by simp) ?_
                refine AllReadyH.cons (o := ⟨some 128, _, _, _, _, _⟩) rfl (fun Ky3 hKy3 => ?_) AllReadyH.nil
                have hzzy3 := HBy2.out.size
                have hE : Hid (([⟨to_, .inc [s] 1 now now, some ⟨b, 0, none⟩, 1⟩] : List Re).flatMap Re.cells = [.int .i64 to_, .bool false, .int .i64 0, .int .i64 0, .int .i64 0, .slice (some ⟨b, 0, none⟩) 1 1, .int .i64 1, .int .i64 now, .int .i64 now]) := Lib.hid rfl
                refine step_app rfl (.tmp 120) (.tmp 127) 107 rfl HA.out Re.len i0' _ 88 Try.underlying107 HI0.out HZ0.out HZ1.out HZ2.out rfl (by decide) _ (by first | exact HTK.out | (have := HTK.out; omega)) _ _ _ [⟨to_, .inc [s] 1 now now, some ⟨b, 0, none⟩, 1⟩] rfl rfl rfl (fun _ => ⟨_, rfl, by rw [hE.out]; exact World.news_of_block Hb2.out⟩) (re_one _) (by unfold maxLen; omega) (by omega) (by omega) ?_
                intro A2 c2 Wy3 hoy3 hgy3 hay3
                have HBy3 := Lib.hid (HBy2.out.grown hgy3 hzzy3 (fun q e => by have := (HA.out.bk' (ob_bk e)).1; omega))
                have Hb' := Lib.hid ((hgy3.block _ (blk_lt Hb.out) (fun e => HNb.out (ob_bk e.symm))).trans Hb.out)
                have hlb := blk_lt Hb.out
                have HN2 : Hid (¬ BK A2 b) := Lib.hid (fun hq => (hay3 b hq).elim HNb.out (fun h => by omega))
                have HA2 := Lib.hid hoy3
                clear hoy3 hgy3 hay3
                refine hKy3.out _ _ (bcell HBy3.out t2) (fun hy3 => ?_)
                try simp only [Act.put, List.setIfInBounds_toArray, List.set_cons_zero, List.set_cons_succ]
                refine wpAnyH_ready (rs := [22]) (by kernel_rfl) (by simp) ?_
                refine AllReadyH.cons (o := ⟨some 135, _, _, _, _, _⟩) rfl (fun Ky4 hKy4 => ?_) AllReadyH.nil
                have hzzy4 := HBy3.out.size
                have hl2 : Hid ((LA ++ [(⟨to_, .inc [s] 1 now now, some ⟨b, 0, none⟩, 1⟩ : Re)]).length = LA.length + 1) := Lib.hid (by simp)
                refine step_app rfl (.tmp 128) (.tmp 134) 107 rfl HA2.out Re.len i0' _ 88 Try.underlying107 HI0.out HZ0.out HZ1.out HZ2.out rfl (by decide) _ (by rw [hl2.out, HTK.out] <;> omega) _ _ _ LB rfl rfl (by first | exact HDL.out | (have := HDL.out; omega)) (by first | exact HB2.out _ HBy3.out | exact fun h => absurd h (by omega)) (re_one _) (by unfold maxLen; omega) (by omega) (by omega) ?_
                intro A3 c3 Wy4 hoy4 hgy4 hay4
                have HBy4 := Lib.hid (HBy3.out.grown hgy4 hzzy4 (fun q e => by have := (HA2.out.bk' (ob_bk e)).1; omega))
                have Hb3 := Lib.hid ((hgy4.block _ (blk_lt Hb'.out) (fun e => HN2.out (ob_bk e.symm))).trans Hb'.out)
                have hlb3 := blk_lt Hb'.out
                have HN3 : Hid (¬ BK A3 b) := Lib.hid (fun hq => (hay4 b hq).elim HN2.out (fun h => by omega))
                have HA3 := Lib.hid hoy4
                clear hoy4 hgy4 hay4
                refine hKy4.out _ _ (bcell HBy4.out t2) (fun hy4 => ?_)
                try simp only [Act.put, List.setIfInBounds_toArray, List.set_cons_zero, List.set_cons_succ]
                refine wpAnyH_take (i := 23) (oi := ⟨some 14, _, _, _, _, _⟩) (v := ?vy4tn12i23) rfl (by kernel_rfl) (by kernel_rfl) (by kernel_rfl) (fun _ _ _ h => h) (Or.inl ⟨by rfl, ?hyy4tn12i23⟩) (by exact hy4) ?rey4tn12i23
                case hyy4tn12i23 => (intro ww hSw; (try dsimp only at hSw); go_simp; first | done | with_reducible rfl)
                try simp only [Act.put, List.setIfInBounds_toArray, List.set_cons_zero, List.set_cons_succ]
                refine wpAnyH_done (by kernel_rfl) ?_ _
                go_wp2_with fail
                go_meet
                refine ⟨A3, c3, b, ?_, ?_, Hb3.out, HBy4.out, by omega, HN3.out⟩
                · congr 1 <;> (have := HDL.out; have := HTK.out; omega)
                · have := HA3.out; rw [List.append_assoc] at this; exact this
              case moy1 =>
                refine AllReadyH.cons (o := ⟨some 127, _, _, _, _, _⟩) rfl (fun Ky1 hKy1 => ?_) AllReadyH.nil
                go_simp
                have Hqy1 := Lib.hid (alloc_new Wy0 (.cells #[.int .i64 to_, .bool false, .int .i64 0, .int .i64 0, .int .i64 0, .slice (some ⟨b, 0, none⟩) 1 1, .int .i64 1, .int .i64 now, .int .i64 now] 111))
                have HBy1 := Lib.hid (below_alloc (o := .cells #[.int .i64 to_, .bool false, .int .i64 0, .int .i64 0, .int .i64 0, .slice (some ⟨b, 0, none⟩) 1 1, .int .i64 1, .int .i64 now, .int .i64 now] 111) HBy0.out)
                have hzy1 := HBy0.out.size
                have Hb := Lib.hid (block_alloc Hb.out (.cells #[.int .i64 to_, .bool false, .int .i64 0, .int .i64 0, .int .i64 0, .slice (some ⟨b, 0, none⟩) 1 1, .int .i64 1, .int .i64 now, .int .i64 now] 111))
                obtain ⟨b2, hb2e⟩ : ∃ b2, Wy0.heap.size = b2 := ⟨_, rfl⟩
                rw [hb2e] at Hqy1 hzy1 ⊢
                have Hb2 := Hqy1; clear Hqy1
                generalize Wy0.alloc (.cells #[.int .i64 to_, .bool false, .int .i64 0, .int .i64 0, .int .i64 0, .slice (some ⟨b, 0, none⟩) 1 1, .int .i64 1, .int .i64 now, .int .i64 now] 111) = Wy1 at *
                refine hKy1.out _ _ (bcell HBy1.out t2) (fun hy1 => ?_)
                try simp only [Act.put, List.setIfInBounds_toArray, List.set_cons_zero, List.set_cons_succ]
                refine wpAnyH_ready (rs := [7]) (by kernel_rfl) (by simp) ?_
                refine AllReadyH.cons (o := ⟨some 120, _, _, _, _, _⟩) rfl (fun Ky2 hKy2 => ?_) AllReadyH.nil
                have hzzy2 := HBy1.out.size
                refine step_app rfl (.tmp 113) (.tmp 119) 107 rfl (SRow.nil 111 9 Re.cells Wy1 w1.heap.size) Re.len i0' _ 88 Try.underlying107 HI0.out HZ0.out HZ1.out HZ2.out rfl (by decide) 0 rfl _ _ _ LA rfl rfl HTK.out (by first | exact HB1.out _ HBy1.out | exact fun h => absurd h (by omega)) (re_one _) (by unfold maxLen; omega) (by omega) (by omega) ?_
                intro A1 c1 Wy2 hoy2 hgy2 hay2
                have HBy2 := Lib.hid (HBy1.out.grown hgy2 hzzy2 (fun q e => by simp [Value.ownBlock] at e))
                have HA := Lib.hid (show EnRow Wy2 w1.heap.size A1 c1 LA by simpa using hoy2)
                have HAq := Lib.hid (fun q (hq : BK A1 q) => (hay2 q hq).resolve_left (bk_none q))
                have hltby2 := blk_lt Hb.out
                have Hb := Lib.hid ((hgy2.block _ (blk_lt Hb.out) (fun e => by simp [Value.ownBlock] at e)).trans Hb.out)
                have HNb : Hid (¬ BK A1 b) := Lib.hid (fun hq => by have := HAq.out _ hq; omega)
                have hltb2y2 := blk_lt Hb2.out
                have Hb2 := Lib.hid ((hgy2.block _ (blk_lt Hb2.out) (fun e => by simp [Value.ownBlock] at e)).trans Hb2.out)
                have HNb2 : Hid (¬ BK A1 b2) := Lib.hid (fun hq => by have := HAq.out _ hq; omega)
                clear hgy2 hay2 hoy2
                refine hKy2.out _ _ (bcell HBy2.out t2) (fun hy2 => ?_)
                try simp only [Act.put, List.setIfInBounds_toArray, List.set_cons_zero, List.set_cons_succ]
                have HAlt := Lib.hid (fun q (hq : BK A1 q) => (HA.out.bk' hq).2)
                refine wpAnyH_ready (rs := [15]) (by kernel_rfl) (by simp) ?_
                refine AllReadyH.cons (o := ⟨some 128, _, _, _, _, _⟩) rfl (fun Ky3 hKy3 => ?_) AllReadyH.nil
                have hzzy3 := HBy2.out.size
                have hE : Hid (([⟨to_, .inc [s] 1 now now, some ⟨b, 0, none⟩, 1⟩] : List Re).flatMap Re.cells = [.int .i64 to_, .bool false, .int .i64 0, .int .i64 0, .int .i64 0, .slice (some ⟨b, 0, none⟩) 1 1, .int .i64 1, .int .i64 now, .int .i64 now]) := Lib.hid rfl
                refine step_app rfl (.tmp 120) (.tmp 127) 107 rfl HA.out Re.len i0' _ 88 Try.underlying107 HI0.out HZ0.out HZ1.out HZ2.out rfl (by decide) _ (by first | exact HTK.out | (have := HTK.out; omega)) _ _ _ [⟨to_, .inc [s] 1 now now, some ⟨b, 0, none⟩, 1⟩] rfl rfl rfl (fun _ => ⟨_, rfl, by rw [hE.out]; exact World.news_of_block Hb2.out⟩) (re_one _) (by unfold maxLen; omega) (by omega) (by omega) ?_
                intro A2 c2 Wy3 hoy3 hgy3 hay3
                have HBy3 := Lib.hid (HBy2.out.grown hgy3 hzzy3 (fun q e => by have := (HA.out.bk' (ob_bk e)).1; omega))
                have Hb' := Lib.hid ((hgy3.block _ (blk_lt Hb.out) (fun e => HNb.out (ob_bk e.symm))).trans Hb.out)
                have hlb := blk_lt Hb.out
                have HN2 : Hid (¬ BK A2 b) := Lib.hid (fun hq => (hay3 b hq).elim HNb.out (fun h => by omega))
                have HA2 := Lib.hid hoy3
                clear hoy3 hgy3 hay3
                refine hKy3.out _ _ (bcell HBy3.out t2) (fun hy3 => ?_)
                try simp only [Act.put, List.setIfInBounds_toArray, List.set_cons_zero, List.set_cons_succ]
                refine wpAnyH_ready (rs := [22]) (by kernel_rfl) (by simp) ?_
                refine AllReadyH.cons (o := ⟨some 135, _, _, _, _, _⟩) rfl (fun Ky4 hKy4 => ?_) AllReadyH.nil
                have hzzy4 := HBy3.out.size
                have hl2 : Hid ((LA ++ [(⟨to_, .inc [s] 1 now now, some ⟨b, 0, none⟩, 1⟩ : Re)]).length = LA.length + 1) := Lib.hid (by simp)
                refine step_app rfl (.tmp 128) (.tmp 134) 107 rfl HA2.out Re.len i0' _ 88 Try.underlying107 HI0.out HZ0.out HZ1.out HZ2.out rfl (by decide) _ (by rw [hl2.out, HTK.out] <;> omega) _ _ _ LB rfl rfl (by first | exact HDL.out | (have := HDL.out; omega)) (by first | exact HB2.out _ HBy3.out | exact fun h => absurd h (by omega)) (re_one _) (by unfold maxLen; omega) (by omega) (by omega) ?_
                intro A3 c3 Wy4 hoy4 hgy4 hay4
                have HBy4 := Lib.hid (HBy3.out.grown hgy4 hzzy4 (fun q e => by have := (HA2.out.bk' (ob_bk e)).1; omega))
                have Hb3 := Lib.hid ((hgy4.block _ (blk_lt Hb'.out) (fun e => HN2.out (ob_bk e.symm))).trans Hb'.out)
                have hlb3 := blk_lt Hb'.out
                have HN3 : Hid (¬ BK A3 b) := Lib.hid (fun hq => (hay4 b hq).elim HN2.out (fun h => by omega))
                have HA3 := Lib.hid hoy4
                clear hoy4 hgy4 hay4
                refine hKy4.out _ _ (bcell HBy4.out t2) (fun hy4 => ?_)
                try simp only [Act.put, List.setIfInBounds_toArray, List.set_cons_zero, List.set_cons_succ]
                refine wpAnyH_take (i := 23) (oi := ⟨some 14, _, _, _, _, _⟩) (v := ?vy4tn14i23) rfl (by kernel_rfl) (by kernel_rfl) (by kernel_rfl) (fun _ _ _ h => h) (Or.inl ⟨by rfl, ?hyy4tn14i23⟩) (by exact hy4) ?rey4tn14i23
                case hyy4tn14i23 => (intro ww hSw; (try dsimp only at hSw); go_simp; first | done | with_reducible rfl)
                try simp only [Act.put, List.setIfInBounds_toArray, List.set_cons_zero, List.set_cons_succ]
                refine wpAnyH_done (by kernel_rfl) ?_ _
                go_wp2_with fail
                go_meet
                refine ⟨A3, c3, b, ?_, ?_, Hb3.out, HBy4.out, by omega, HN3.out⟩
                · congr 1 <;> (have := HDL.out; have := HTK.out; omega)
                · have := HA3.out; rw [List.append_assoc] at this; exact this
          · skip
            refine wp_region_held_drew (S := fun w' => w'.cell? ⟨T, 2, none⟩ = some (.slice (some ⟨g, 0, none⟩) n1 d2)) (by kernel_rfl) (by rw [hw0]; exact ht2.out) ?_
            rw [hw0]
            intro hS
            clear hw0 t2 t2'
            have t2 := ht21.out
            refine wpAnyH_take (i := 0) (oi := ⟨some 113, _, _, _, _, _⟩) (v := ?van15i0) rfl (by kernel_rfl) (by kernel_rfl) (by kernel_rfl) (fun _ _ _ h => h) (Or.inl ⟨by rfl, ?hyan15i0⟩) (by exact hS) ?rean15i0
            case hyan15i0 => (intro ww hSw; (try dsimp only at hSw); go_simp; first | done | with_reducible rfl)
            try simp only [Act.put, List.setIfInBounds_toArray, List.set_cons_zero, List.set_cons_succ]
            refine wpAnyH_take (i := 1) (oi := ⟨some 114, _, _, _, _, _⟩) (v := ?van15i1) rfl (by kernel_rfl) (by kernel_rfl) (by kernel_rfl) (fun _ _ _ h => h) (Or.inl ⟨by rfl, ?hyan15i1⟩) (by exact hS) ?rean15i1
            case hyan15i1 => (intro ww hSw; (try dsimp only at hSw); go_simp; first | done | with_reducible rfl)
            try simp only [Act.put, List.setIfInBounds_toArray, List.set_cons_zero, List.set_cons_succ]
            refine wpAnyH_take (i := 2) (oi := ⟨some 115, _, _, _, _, _⟩) (v := ?van15i2) rfl (by kernel_rfl) (by kernel_rfl) (by kernel_rfl) (fun _ _ _ h => h) (Or.inl ⟨by rfl, ?hyan15i2⟩) (by exact hS) ?rean15i2
            case hyan15i2 => (intro ww hSw; (try dsimp only at hSw); go_simp; first | done | with_reducible rfl)
            try simp only [Act.put, List.setIfInBounds_toArray, List.set_cons_zero, List.set_cons_succ]
            refine wpAnyH_take (i := 3) (oi := ⟨some 116, _, _, _, _, _⟩) (v := ?van15i3) rfl (by kernel_rfl) (by kernel_rfl) (by kernel_rfl) (fun _ _ _ h => h) (Or.inl ⟨by rfl, ?hyan15i3⟩) (by exact hS) ?rean15i3
            case hyan15i3 => (intro ww hSw; (try dsimp only at hSw); go_simp; first | done | with_reducible rfl)
            try simp only [Act.put, List.setIfInBounds_toArray, List.set_cons_zero, List.set_cons_succ]
            refine wpAnyH_take (i := 4) (oi := ⟨some 117, _, _, _, _, _⟩) (v := ?van15i4) rfl (by kernel_rfl) (by kernel_rfl) (by kernel_rfl) (fun _ _ _ h => h) (Or.inl ⟨by rfl, ?hyan15i4⟩) (by exact hS) ?rean15i4
            case hyan15i4 => (intro ww hSw; (try dsimp only at hSw); go_simp; first | done | with_reducible rfl)
            try simp only [Act.put, List.setIfInBounds_toArray, List.set_cons_zero, List.set_cons_succ]
            refine wpAnyH_take (i := 5) (oi := ⟨some 118, _, _, _, _, _⟩) (v := ?van15i5) rfl (by kernel_rfl) (by kernel_rfl) (by kernel_rfl) (fun _ _ _ h => h) (Or.inl ⟨by rfl, ?hyan15i5⟩) (by exact hS) ?rean15i5
            case hyan15i5 => (intro ww hSw; (try dsimp only at hSw); go_simp; first | done | with_reducible rfl)
            try simp only [Act.put, List.setIfInBounds_toArray, List.set_cons_zero, List.set_cons_succ]
            refine wpAnyH_take (i := 6) (oi := ⟨some 119, _, _, _, _, _⟩) (v := ?van15i6) rfl (by kernel_rfl) (by kernel_rfl) (by kernel_rfl) (fun _ _ _ h => h) (Or.inl ⟨by rfl, ?hyan15i6⟩) (by exact hS) ?rean15i6
            case hyan15i6 => (intro ww hSw; (try dsimp only at hSw); go_simp; first | done | with_reducible rfl)
            try simp only [Act.put, List.setIfInBounds_toArray, List.set_cons_zero, List.set_cons_succ]
            refine wpAnyH_take (i := 8) (oi := ⟨some 121, _, _, _, _, _⟩) (v := ?van15i8) rfl (by kernel_rfl) (by kernel_rfl) (by kernel_rfl) (fun _ _ _ h => h) (Or.inl ⟨by rfl, ?hyan15i8⟩) (by exact hS) ?rean15i8
            case hyan15i8 => (intro ww hSw; (try dsimp only at hSw); go_simp; first | done | with_reducible rfl)
            try simp only [Act.put, List.setIfInBounds_toArray, List.set_cons_zero, List.set_cons_succ]
            refine wpAnyH_take (i := 9) (oi := ⟨some 122, _, _, _, _, _⟩) (v := ?van15i9) rfl (by kernel_rfl) (by kernel_rfl) (by kernel_rfl) (fun _ _ _ h => h) (Or.inl ⟨by rfl, ?hyan15i9⟩) (by exact hS) ?rean15i9
            case hyan15i9 => (intro ww hSw; (try dsimp only at hSw); go_simp; first | done | with_reducible rfl)
            try simp only [Act.put, List.setIfInBounds_toArray, List.set_cons_zero, List.set_cons_succ]
            refine wpAnyH_take (i := 11) (oi := ⟨some 124, _, _, _, _, _⟩) (v := ?van15i11) rfl (by kernel_rfl) (by kernel_rfl) (by kernel_rfl) (fun _ _ _ h => h) (Or.inl ⟨by rfl, ?hyan15i11⟩) (by exact hS) ?rean15i11
            case hyan15i11 => (intro ww hSw; (try dsimp only at hSw); go_simp; first | done | with_reducible rfl)
            try simp only [Act.put, List.setIfInBounds_toArray, List.set_cons_zero, List.set_cons_succ]
            refine wpAnyH_take (i := 12) (oi := ⟨some 125, _, _, _, _, _⟩) (v := ?van15i12) rfl (by kernel_rfl) (by kernel_rfl) (by kernel_rfl) (fun _ _ _ h => h) (Or.inl ⟨by rfl, ?hyan15i12⟩) (by exact hS) ?rean15i12
            case hyan15i12 => (intro ww hSw; (try dsimp only at hSw); go_simp; first | done | with_reducible rfl)
            try simp only [Act.put, List.setIfInBounds_toArray, List.set_cons_zero, List.set_cons_succ]
            refine wpAnyH_take (i := 16) (oi := ⟨some 129, _, _, _, _, _⟩) (v := ?van15i16) rfl (by kernel_rfl) (by kernel_rfl) (by kernel_rfl) (fun _ _ _ h => h) (Or.inl ⟨by rfl, ?hyan15i16⟩) (by exact hS) ?rean15i16
            case hyan15i16 => (intro ww hSw; (try dsimp only at hSw); go_simp; first | done | with_reducible rfl)
            try simp only [Act.put, List.setIfInBounds_toArray, List.set_cons_zero, List.set_cons_succ]
            refine wpAnyH_take (i := 17) (oi := ⟨some 130, _, _, _, _, _⟩) (v := ?van15i17) rfl (by kernel_rfl) (by kernel_rfl) (by kernel_rfl) (fun _ _ _ h => h) (Or.inl ⟨by rfl, ?hyan15i17⟩) (by exact hS) ?rean15i17
            case hyan15i17 => (intro ww hSw; (try dsimp only at hSw); go_simp; first | done | with_reducible rfl)
            try simp only [Act.put, List.setIfInBounds_toArray, List.set_cons_zero, List.set_cons_succ]
            refine wpAnyH_take (i := 18) (oi := ⟨some 131, _, _, _, _, _⟩) (v := ?van15i18) rfl (by kernel_rfl) (by kernel_rfl) (by kernel_rfl) (fun _ _ _ h => h) (Or.inl ⟨by rfl, ?hyan15i18⟩) (by exact hS) ?rean15i18
            case hyan15i18 => (intro ww hSw; (try dsimp only at hSw); go_simp; first | done | with_reducible rfl)
            try simp only [Act.put, List.setIfInBounds_toArray, List.set_cons_zero, List.set_cons_succ]
            refine wpAnyH_take (i := 19) (oi := ⟨some 132, _, _, _, _, _⟩) (v := ?van15i19) rfl (by kernel_rfl) (by kernel_rfl) (by kernel_rfl) (fun _ _ _ h => h) (Or.inl ⟨by rfl, ?hyan15i19⟩) (by exact hS) ?rean15i19
            case hyan15i19 => (intro ww hSw; (try dsimp only at hSw); go_simp; first | done | with_reducible rfl)
            try simp only [Act.put, List.setIfInBounds_toArray, List.set_cons_zero, List.set_cons_succ]
            refine wpAnyH_take (i := 20) (oi := ⟨some 133, _, _, _, _, _⟩) (v := ?van15i20) rfl (by kernel_rfl) (by kernel_rfl) (by kernel_rfl) (fun _ _ _ h => h) (Or.inl ⟨by rfl, ?hyan15i20⟩) (by exact hS) ?rean15i20
            case hyan15i20 => (intro ww hSw; (try dsimp only at hSw); go_simp; first | done | with_reducible rfl)
            try simp only [Act.put, List.setIfInBounds_toArray, List.set_cons_zero, List.set_cons_succ]
            refine wpAnyH_take (i := 21) (oi := ⟨some 134, _, _, _, _, _⟩) (v := ?van15i21) rfl (by kernel_rfl) (by kernel_rfl) (by kernel_rfl) (fun _ _ _ h => h) (Or.inl ⟨by rfl, ?hyan15i21⟩) (by exact hS) ?rean15i21
            case hyan15i21 => (intro ww hSw; (try dsimp only at hSw); go_simp; first | done | with_reducible rfl)
            try simp only [Act.put, List.setIfInBounds_toArray, List.set_cons_zero, List.set_cons_succ]
            refine wpAnyH_ready (rs := [7, 10]) (by kernel_rfl) (by simp) ?_
            refine AllReadyH.cons (o := ⟨some 120, _, _, _, _, _⟩) rfl (fun Kx0 hKx0 => ?stx0) ?mox0
            case stx0 =>
              have hzzx0 := HB0.out.size
              refine step_app rfl (.tmp 113) (.tmp 119) 107 rfl (SRow.nil 111 9 Re.cells w0 w1.heap.size) Re.len i0' _ 88 Try.underlying107 HI0.out HZ0.out HZ1.out HZ2.out rfl (by decide) 0 rfl _ _ _ LA rfl rfl HTK.out (by first | exact HB1.out _ HB0.out | exact fun h => absurd h (by omega)) (re_one _) (by unfold maxLen; omega) (by omega) (by omega) ?_
              intro A1 c1 Wx0 hox0 hgx0 hax0
              have HBx0 := Lib.hid (HB0.out.grown hgx0 hzzx0 (fun q e => by simp [Value.ownBlock] at e))
              have HA := Lib.hid (show EnRow Wx0 w1.heap.size A1 c1 LA by simpa using hox0)
              have HAq := Lib.hid (fun q (hq : BK A1 q) => (hax0 q hq).resolve_left (bk_none q))
              clear hgx0 hax0 hox0
              refine hKx0.out _ _ (bcell HBx0.out t2) (fun hx0 => ?_)
              try simp only [Act.put, List.setIfInBounds_toArray, List.set_cons_zero, List.set_cons_succ]
              have HAlt := Lib.hid (fun q (hq : BK A1 q) => (HA.out.bk' hq).2)
              refine wpAnyH_ready (rs := [10]) (by kernel_rfl) (by simp) ?_
              refine AllReadyH.cons (o := ⟨some 123, _, _, _, _, _⟩) rfl (fun Kx1 hKx1 => ?_) AllReadyH.nil
              go_simp
              have Hqx1 := Lib.hid (alloc_new Wx0 (.cells #[.string s] 9))
              have HBx1 := Lib.hid (below_alloc (o := .cells #[.string s] 9) HBx0.out)
              have hzx1 := HBx0.out.size
              have hHA := HA.out.below ((Below.refl Wx0.heap.size Wx0).alloc (Nat.le_refl _) (.cells #[.string s] 9))
              have HA := Lib.hid hHA; clear hHA
              have HNb : Hid (¬ BK A1 Wx0.heap.size) := Lib.hid (fun hq => by have := HAlt.out _ hq; omega)
              obtain ⟨b, hbe⟩ : ∃ b, Wx0.heap.size = b := ⟨_, rfl⟩
              rw [hbe] at Hqx1 hzx1 HNb ⊢
              have Hb := Hqx1; clear Hqx1
              generalize Wx0.alloc (.cells #[.string s] 9) = Wx1 at *
              refine hKx1.out _ _ (bcell HBx1.out t2) (fun hx1 => ?_)
              try simp only [Act.put, List.setIfInBounds_toArray, List.set_cons_zero, List.set_cons_succ]
              have HAlt := Lib.hid (fun q (hq : BK A1 q) => (HA.out.bk' hq).2)
              refine wpAnyH_take (i := 13) (oi := ⟨some 126, _, _, _, _, _⟩) (v := ?vx1tn16i13) rfl (by kernel_rfl) (by kernel_rfl) (by kernel_rfl) (fun _ _ _ h => h) (Or.inl ⟨by rfl, ?hyx1tn16i13⟩) (by exact hx1) ?rex1tn16i13
              case hyx1tn16i13 => (intro ww hSw; (try dsimp only at hSw); go_simp; first | done | with_reducible rfl)
              try simp only [Act.put, List.setIfInBounds_toArray, List.set_cons_zero, List.set_cons_succ]
              refine wpAnyH_ready (rs := [14]) (by kernel_rfl) (by simp) ?_
              refine AllReadyH.cons (o := ⟨some 127, _, _, _, _, _⟩) rfl (fun Kx2 hKx2 => ?_) AllReadyH.nil
              go_simp
              have Hqx2 := Lib.hid (alloc_new Wx1 (.cells #[.int .i64 to_, .bool false, .int .i64 0, .int .i64 0, .int .i64 0, .slice (some ⟨b, 0, none⟩) 1 1, .int .i64 1, .int .i64 now, .int .i64 now] 111))
              have HBx2 := Lib.hid (below_alloc (o := .cells #[.int .i64 to_, .bool false, .int .i64 0, .int .i64 0, .int .i64 0, .slice (some ⟨b, 0, none⟩) 1 1, .int .i64 1, .int .i64 now, .int .i64 now] 111) HBx1.out)
              have hzx2 := HBx1.out.size
              have hHA := HA.out.below ((Below.refl Wx1.heap.size Wx1).alloc (Nat.le_refl _) (.cells #[.int .i64 to_, .bool false, .int .i64 0, .int .i64 0, .int .i64 0, .slice (some ⟨b, 0, none⟩) 1 1, .int .i64 1, .int .i64 now, .int .i64 now] 111))
              have HA := Lib.hid hHA; clear hHA
              have HNb2 : Hid (¬ BK A1 Wx1.heap.size) := Lib.hid (fun hq => by have := HAlt.out _ hq; omega)
              have Hb := Lib.hid (block_alloc Hb.out (.cells #[.int .i64 to_, .bool false, .int .i64 0, .int .i64 0, .int .i64 0, .slice (some ⟨b, 0, none⟩) 1 1, .int .i64 1, .int .i64 now, .int .i64 now] 111))
              obtain ⟨b2, hb2e⟩ : ∃ b2, Wx1.heap.size = b2 := ⟨_, rfl⟩
              rw [hb2e] at Hqx2 hzx2 HNb2 ⊢
              have Hb2 := Hqx2; clear Hqx2
              generalize Wx1.alloc (.cells #[.int .i64 to_, .bool false, .int .i64 0, .int .i64 0, .int .i64 0, .slice (some ⟨b, 0, none⟩) 1 1, .int .i64 1, .int .i64 now, .int .i64 now] 111) = Wx2 at *
              refine hKx2.out _ _ (bcell HBx2.out t2) (fun hx2 => ?_)
              try simp only [Act.put, List.setIfInBounds_toArray, List.set_cons_zero, List.set_cons_succ]
              have HAlt := Lib.hid (fun q (hq : BK A1 q) => (HA.out.bk' hq).2)
              refine wpAnyH_ready (rs := [15]) (by kernel_rfl) (by simp) ?_
              refine AllReadyH.cons (o := ⟨some 128, _, _, _, _, _⟩) rfl (fun Kx3 hKx3 => ?_) AllReadyH.nil
              have hzzx3 := HBx2.out.size
              have hE : Hid (([⟨to_, .inc [s] 1 now now, some ⟨b, 0, none⟩, 1⟩] : List Re).flatMap Re.cells = [.int .i64 to_, .bool false, .int .i64 0, .int .i64 0, .int .i64 0, .slice (some ⟨b, 0, none⟩) 1 1, .int .i64 1, .int .i64 now, .int .i64 now]) := Lib.hid rfl
              refine step_app rfl (.tmp 120) (.tmp 127) 107 rfl HA.out Re.len i0' _ 88 Try.underlying107 HI0.out HZ0.out HZ1.out HZ2.out rfl (by decide) _ (by first | exact HTK.out | (have := HTK.out; omega)) _ _ _ [⟨to_, .inc [s] 1 now now, some ⟨b, 0, none⟩, 1⟩] rfl rfl rfl (fun _ => ⟨_, rfl, by rw [hE.out]; exact World.news_of_block Hb2.out⟩) (re_one _) (by unfold maxLen; omega) (by omega) (by omega) ?_
              intro A2 c2 Wx3 hox3 hgx3 hax3
              have HBx3 := Lib.hid (HBx2.out.grown hgx3 hzzx3 (fun q e => by have := (HA.out.bk' (ob_bk e)).1; omega))
              have Hb' := Lib.hid ((hgx3.block _ (blk_lt Hb.out) (fun e => HNb.out (ob_bk e.symm))).trans Hb.out)
              have hlb := blk_lt Hb.out
              have HN2 : Hid (¬ BK A2 b) := Lib.hid (fun hq => (hax3 b hq).elim HNb.out (fun h => by omega))
              have HA2 := Lib.hid hox3
              clear hox3 hgx3 hax3
              refine hKx3.out _ _ (bcell HBx3.out t2) (fun hx3 => ?_)
              try simp only [Act.put, List.setIfInBounds_toArray, List.set_cons_zero, List.set_cons_succ]
              refine wpAnyH_ready (rs := [22]) (by kernel_rfl) (by simp) ?_
              refine AllReadyH.cons (o := ⟨some 135, _, _, _, _, _⟩) rfl (fun Kx4 hKx4 => ?_) AllReadyH.nil
              have hzzx4 := HBx3.out.size
              have hl2 : Hid ((LA ++ [(⟨to_, .inc [s] 1 now now, some ⟨b, 0, none⟩, 1⟩ : Re)]).length = LA.length + 1) := Lib.hid (by simp)
              refine step_app rfl (.tmp 128) (.tmp 134) 107 rfl HA2.out Re.len i0' _ 88 Try.underlying107 HI0.out HZ0.out HZ1.out HZ2.out rfl (by decide) _ (by rw [hl2.out, HTK.out] <;> omega) _ _ _ LB rfl rfl (by first | exact HDL.out | (have := HDL.out; omega)) (by first | exact HB2.out _ HBx3.out | exact fun h => absurd h (by omega)) (re_one _) (by unfold maxLen; omega) (by omega) (by omega) ?_
              intro A3 c3 Wx4 hox4 hgx4 hax4
              have HBx4 := Lib.hid (HBx3.out.grown hgx4 hzzx4 (fun q e => by have := (HA2.out.bk' (ob_bk e)).1; omega))
              have Hb3 := Lib.hid ((hgx4.block _ (blk_lt Hb'.out) (fun e => HN2.out (ob_bk e.symm))).trans Hb'.out)
              have hlb3 := blk_lt Hb'.out
              have HN3 : Hid (¬ BK A3 b) := Lib.hid (fun hq => (hax4 b hq).elim HN2.out (fun h => by omega))
              have HA3 := Lib.hid hox4
              clear hox4 hgx4 hax4
              refine hKx4.out _ _ (bcell HBx4.out t2) (fun hx4 => ?_)
              try simp only [Act.put, List.setIfInBounds_toArray, List.set_cons_zero, List.set_cons_succ]
              refine wpAnyH_take (i := 23) (oi := ⟨some 14, _, _, _, _, _⟩) (v := ?vx4tn17i23) rfl (by kernel_rfl) (by kernel_rfl) (by kernel_rfl) (fun _ _ _ h => h) (Or.inl ⟨by rfl, ?hyx4tn17i23⟩) (by exact hx4) ?rex4tn17i23
              case hyx4tn17i23 => (intro ww hSw; (try dsimp only at hSw); go_simp; first | done | with_reducible rfl)
              try simp only [Act.put, List.setIfInBounds_toArray, List.set_cons_zero, List.set_cons_succ]
              refine wpAnyH_done (by kernel_rfl) ?_ _
              go_wp2_with fail
              go_meet
              refine ⟨A3, c3, b, ?_, ?_, Hb3.out, HBx4.out, by omega, HN3.out⟩
              · congr 1 <;> (have := HDL.out; have := HTK.out; omega)
              · have := HA3.out; rw [List.append_assoc] at this; exact this
            case mox0 =>
              refine AllReadyH.cons (o := ⟨some 123, _, _, _, _, _⟩) rfl (fun Ky0 hKy0 => ?_) AllReadyH.nil
              go_simp
              have Hqy0 := Lib.hid (alloc_new w0 (.cells #[.string s] 9))
              have HBy0 := Lib.hid (below_alloc (o := .cells #[.string s] 9) HB0.out)
              have hzy0 := HB0.out.size
              obtain ⟨b, hbe⟩ : ∃ b, w0.heap.size = b := ⟨_, rfl⟩
              rw [hbe] at Hqy0 hzy0 ⊢
              have Hb := Hqy0; clear Hqy0
              generalize w0.alloc (.cells #[.string s] 9) = Wy0 at *
              refine hKy0.out _ _ (bcell HBy0.out t2) (fun hy0 => ?_)
              try simp only [Act.put, List.setIfInBounds_toArray, List.set_cons_zero, List.set_cons_succ]
              refine wpAnyH_take (i := 13) (oi := ⟨some 126, _, _, _, _, _⟩) (v := ?vy0tn18i13) rfl (by kernel_rfl) (by kernel_rfl) (by kernel_rfl) (fun _ _ _ h => h) (Or.inl ⟨by rfl, ?hyy0tn18i13⟩) (by exact hy0) ?rey0tn18i13
              case hyy0tn18i13 => (intro ww hSw; (try dsimp only at hSw); go_simp; first | done | with_reducible rfl)
              try simp only [Act.put, List.setIfInBounds_toArray, List.set_cons_zero, List.set_cons_succ]
              refine wpAnyH_ready (rs := [7, 14]) (by kernel_rfl) (by simp) ?_
              refine AllReadyH.cons (o := ⟨some 120, _, _, _, _, _⟩) rfl (fun Ky1 hKy1 => ?sty1) ?moy1
              case sty1 =>
                have hzzy1 := HBy0.out.size
                refine step_app rfl (.tmp 113) (.tmp 119) 107 rfl (SRow.nil 111 9 Re.cells Wy0 w1.heap.size) Re.len i0' _ 88 Try.underlying107 HI0.out HZ0.out HZ1.out HZ2.out rfl (by decide) 0 rfl _ _ _ LA rfl rfl HTK.out (by first | exact HB1.out _ HBy0.out | exact fun h => absurd h (by omega)) (re_one _) (by unfold maxLen; omega) (by omega) (by omega) ?_
                intro A1 c1 Wy1 hoy1 hgy1 hay1
                have HBy1 := Lib.hid (HBy0.out.grown hgy1 hzzy1 (fun q e => by simp [Value.ownBlock] at e))
                have HA := Lib.hid (show EnRow Wy1 w1.heap.size A1 c1 LA by simpa using hoy1)
                have HAq := Lib.hid (fun q (hq : BK A1 q) => (hay1 q hq).resolve_left (bk_none q))
                have hltby1 := blk_lt Hb.out
                have Hb := Lib.hid ((hgy1.block _ (blk_lt Hb.out) (fun e => by simp [Value.ownBlock] at e)).trans Hb.out)
                have HNb : Hid (¬ BK A1 b) := Lib.hid (fun hq => by have := HAq.out _ hq; omega)
                clear hgy1 hay1 hoy1
                refine hKy1.out _ _ (bcell HBy1.out t2) (fun hy1 => ?_)
                try simp only [Act.put, List.setIfInBounds_toArray, List.set_cons_zero, List.set_cons_succ]
                have HAlt := Lib.hid (fun q (hq : BK A1 q) => (HA.out.bk' hq).2)
                refine wpAnyH_ready (rs := [14]) (by kernel_rfl) (by simp) ?_
                refine AllReadyH.cons (o := ⟨some 127, _, _, _, _, _⟩) rfl (fun Ky2 hKy2 => ?_) AllReadyH.nil
                go_simp
                have Hqy2 := Lib.hid (alloc_new Wy1 (.cells #[.int .i64 to_, .bool false, .int .i64 0, .int .i64 0, .int .i64 0, .slice (some ⟨b, 0, none⟩) 1 1, .int .i64 1, .int .i64 now, .int .i64 now] 111))
                have HBy2 := Lib.hid (below_alloc (o := .cells #[.int .i64 to_, .bool false, .int .i64 0, .int .i64 0, .int .i64 0, .slice (some ⟨b, 0, none⟩) 1 1, .int .i64 1, .int .i64 now, .int .i64 now] 111) HBy1.out)
                have hzy2 := HBy1.out.size
                have hHA := HA.out.below ((Below.refl Wy1.heap.size Wy1).alloc (Nat.le_refl _) (.cells #[.int .i64 to_, .bool false, .int .i64 0, .int .i64 0, .int .i64 0, .slice (some ⟨b, 0, none⟩) 1 1, .int .i64 1, .int .i64 now, .int .i64 now] 111))
                have HA := Lib.hid hHA; clear hHA
                have HNb2 : Hid (¬ BK A1 Wy1.heap.size) := Lib.hid (fun hq => by have := HAlt.out _ hq; omega)
                have Hb := Lib.hid (block_alloc Hb.out (.cells #[.int .i64 to_, .bool false, .int .i64 0, .int .i64 0, .int .i64 0, .slice (some ⟨b, 0, none⟩) 1 1, .int .i64 1, .int .i64 now, .int .i64 now] 111))
                obtain ⟨b2, hb2e⟩ : ∃ b2, Wy1.heap.size = b2 := ⟨_, rfl⟩
                rw [hb2e] at Hqy2 hzy2 HNb2 ⊢
                have Hb2 := Hqy2; clear Hqy2
                generalize Wy1.alloc (.cells #[.int .i64 to_, .bool false, .int .i64 0, .int .i64 0, .int .i64 0, .slice (some ⟨b, 0, none⟩) 1 1, .int .i64 1, .int .i64 now, .int .i64 now] 111) = Wy2 at *
                refine hKy2.out _ _ (bcell HBy2.out t2) (fun hy2 => ?_)
                try simp only [Act.put, List.setIfInBounds_toArray, List.set_cons_zero, List.set_cons_succ]
                have HAlt := Lib.hid (fun q (hq : BK A1 q) => (HA.out.bk' hq).2)
                refine wpAnyH_ready (rs := [15]) (by kernel_rfl) (by simp) ?_
                refine AllReadyH.cons (o := ⟨some 128, _, _, _, _, _⟩) rfl (fun Ky3 hKy3 => ?_) AllReadyH.nil
                have hzzy3 := HBy2.out.size
                have hE : Hid (([⟨to_, .inc [s] 1 now now, some ⟨b, 0, none⟩, 1⟩] : List Re).flatMap Re.cells = [.int .i64 to_, .bool false, .int .i64 0, .int .i64 0, .int .i64 0, .slice (some ⟨b, 0, none⟩) 1 1, .int .i64 1, .int .i64 now, .int .i64 now]) := Lib.hid rfl
                refine step_app rfl (.tmp 120) (.tmp 127) 107 rfl HA.out Re.len i0' _ 88 Try.underlying107 HI0.out HZ0.out HZ1.out HZ2.out rfl (by decide) _ (by first | exact HTK.out | (have := HTK.out; omega)) _ _ _ [⟨to_, .inc [s] 1 now now, some ⟨b, 0, none⟩, 1⟩] rfl rfl rfl (fun _ => ⟨_, rfl, by rw [hE.out]; exact World.news_of_block Hb2.out⟩) (re_one _) (by unfold maxLen; omega) (by omega) (by omega) ?_
                intro A2 c2 Wy3 hoy3 hgy3 hay3
                have HBy3 := Lib.hid (HBy2.out.grown hgy3 hzzy3 (fun q e => by have := (HA.out.bk' (ob_bk e)).1; omega))
                have Hb' := Lib.hid ((hgy3.block _ (blk_lt Hb.out) (fun e => HNb.out (ob_bk e.symm))).trans Hb.out)
                have hlb := blk_lt Hb.out
                have HN2 : Hid (¬ BK A2 b) := Lib.hid (fun hq => (hay3 b hq).elim HNb.out (fun h => by omega))
                have HA2 := Lib.hid hoy3
                clear hoy3 hgy3 hay3
                refine hKy3.out _ _ (bcell HBy3.out t2) (fun hy3 => ?_)
                try simp only [Act.put, List.setIfInBounds_toArray, List.set_cons_zero, List.set_cons_succ]
                refine wpAnyH_ready (rs := [22]) (by kernel_rfl) (by simp) ?_
                refine AllReadyH.cons (o := ⟨some 135, _, _, _, _, _⟩) rfl (fun Ky4 hKy4 => ?_) AllReadyH.nil
                have hzzy4 := HBy3.out.size
                have hl2 : Hid ((LA ++ [(⟨to_, .inc [s] 1 now now, some ⟨b, 0, none⟩, 1⟩ : Re)]).length = LA.length + 1) := Lib.hid (by simp)
                refine step_app rfl (.tmp 128) (.tmp 134) 107 rfl HA2.out Re.len i0' _ 88 Try.underlying107 HI0.out HZ0.out HZ1.out HZ2.out rfl (by decide) _ (by rw [hl2.out, HTK.out] <;> omega) _ _ _ LB rfl rfl (by first | exact HDL.out | (have := HDL.out; omega)) (by first | exact HB2.out _ HBy3.out | exact fun h => absurd h (by omega)) (re_one _) (by unfold maxLen; omega) (by omega) (by omega) ?_
                intro A3 c3 Wy4 hoy4 hgy4 hay4
                have HBy4 := Lib.hid (HBy3.out.grown hgy4 hzzy4 (fun q e => by have := (HA2.out.bk' (ob_bk e)).1; omega))
                have Hb3 := Lib.hid ((hgy4.block _ (blk_lt Hb'.out) (fun e => HN2.out (ob_bk e.symm))).trans Hb'.out)
                have hlb3 := blk_lt Hb'.out
                have HN3 : Hid (¬ BK A3 b) := Lib.hid (fun hq => (hay4 b hq).elim HN2.out (fun h => by omega))
                have HA3 := Lib.hid hoy4
                clear hoy4 hgy4 hay4
                refine hKy4.out _ _ (bcell HBy4.out t2) (fun hy4 => ?_)
                try simp only [Act.put, List.setIfInBounds_toArray, List.set_cons_zero, List.set_cons_succ]
                refine wpAnyH_take (i := 23) (oi := ⟨some 14, _, _, _, _, _⟩) (v := ?vy4tn19i23) rfl (by kernel_rfl) (by kernel_rfl) (by kernel_rfl) (fun _ _ _ h => h) (Or.inl ⟨by rfl, ?hyy4tn19i23⟩) (by exact hy4) ?rey4tn19i23
                case hyy4tn19i23 => (intro ww hSw; (try dsimp only at hSw); go_simp; first | done | with_reducible rfl)
                try simp only [Act.put, List.setIfInBounds_toArray, List.set_cons_zero, List.set_cons_succ]
                refine wpAnyH_done (by kernel_rfl) ?_ _
                go_wp2_with fail
                go_meet
                refine ⟨A3, c3, b, ?_, ?_, Hb3.out, HBy4.out, by omega, HN3.out⟩
                · congr 1 <;> (have := HDL.out; have := HTK.out; omega)
                · have := HA3.out; rw [List.append_assoc] at this; exact this
              case moy1 =>
                refine AllReadyH.cons (o := ⟨some 127, _, _, _, _, _⟩) rfl (fun Ky1 hKy1 => ?_) AllReadyH.nil
                go_simp
                have Hqy1 := Lib.hid (alloc_new Wy0 (.cells #[.int .i64 to_, .bool false, .int .i64 0, .int .i64 0, .int .i64 0, .slice (some ⟨b, 0, none⟩) 1 1, .int .i64 1, .int .i64 now, .int .i64 now] 111))
                have HBy1 := Lib.hid (below_alloc (o := .cells #[.int .i64 to_, .bool false, .int .i64 0, .int .i64 0, .int .i64 0, .slice (some ⟨b, 0, none⟩) 1 1, .int .i64 1, .int .i64 now, .int .i64 now] 111) HBy0.out)
                have hzy1 := HBy0.out.size
                have Hb := Lib.hid (block_alloc Hb.out (.cells #[.int .i64 to_, .bool false, .int .i64 0, .int .i64 0, .int .i64 0, .slice (some ⟨b, 0, none⟩) 1 1, .int .i64 1, .int .i64 now, .int .i64 now] 111))
                obtain ⟨b2, hb2e⟩ : ∃ b2, Wy0.heap.size = b2 := ⟨_, rfl⟩
                rw [hb2e] at Hqy1 hzy1 ⊢
                have Hb2 := Hqy1; clear Hqy1
                generalize Wy0.alloc (.cells #[.int .i64 to_, .bool false, .int .i64 0, .int .i64 0, .int .i64 0, .slice (some ⟨b, 0, none⟩) 1 1, .int .i64 1, .int .i64 now, .int .i64 now] 111) = Wy1 at *
                refine hKy1.out _ _ (bcell HBy1.out t2) (fun hy1 => ?_)
                try simp only [Act.put, List.setIfInBounds_toArray, List.set_cons_zero, List.set_cons_succ]
                refine wpAnyH_ready (rs := [7]) (by kernel_rfl) (by simp) ?_
                refine AllReadyH.cons (o := ⟨some 120, _, _, _, _, _⟩) rfl (fun Ky2 hKy2 => ?_) AllReadyH.nil
                have hzzy2 := HBy1.out.size
                refine step_app rfl (.tmp 113) (.tmp 119) 107 rfl (SRow.nil 111 9 Re.cells Wy1 w1.heap.size) Re.len i0' _ 88 Try.underlying107 HI0.out HZ0.out HZ1.out HZ2.out rfl (by decide) 0 rfl _ _ _ LA rfl rfl HTK.out (by first | exact HB1.out _ HBy1.out | exact fun h => absurd h (by omega)) (re_one _) (by unfold maxLen; omega) (by omega) (by omega) ?_
                intro A1 c1 Wy2 hoy2 hgy2 hay2
                have HBy2 := Lib.hid (HBy1.out.grown hgy2 hzzy2 (fun q e => by simp [Value.ownBlock] at e))
                have HA := Lib.hid (show EnRow Wy2 w1.heap.size A1 c1 LA by simpa using hoy2)
                have HAq := Lib.hid (fun q (hq : BK A1 q) => (hay2 q hq).resolve_left (bk_none q))
                have hltby2 := blk_lt Hb.out
                have Hb := Lib.hid ((hgy2.block _ (blk_lt Hb.out) (fun e => by simp [Value.ownBlock] at e)).trans Hb.out)
                have HNb : Hid (¬ BK A1 b) := Lib.hid (fun hq => by have := HAq.out _ hq; omega)
                have hltb2y2 := blk_lt Hb2.out
                have Hb2 := Lib.hid ((hgy2.block _ (blk_lt Hb2.out) (fun e => by simp [Value.ownBlock] at e)).trans Hb2.out)
                have HNb2 : Hid (¬ BK A1 b2) := Lib.hid (fun hq => by have := HAq.out _ hq; omega)
                clear hgy2 hay2 hoy2
                refine hKy2.out _ _ (bcell HBy2.out t2) (fun hy2 => ?_)
                try simp only [Act.put, List.setIfInBounds_toArray, List.set_cons_zero, List.set_cons_succ]
                have HAlt := Lib.hid (fun q (hq : BK A1 q) => (HA.out.bk' hq).2)
                refine wpAnyH_ready (rs := [15]) (by kernel_rfl) (by simp) ?_
                refine AllReadyH.cons (o := ⟨some 128, _, _, _, _, _⟩) rfl (fun Ky3 hKy3 => ?_) AllReadyH.nil
                have hzzy3 := HBy2.out.size
                have hE : Hid (([⟨to_, .inc [s] 1 now now, some ⟨b, 0, none⟩, 1⟩] : List Re).flatMap Re.cells = [.int .i64 to_, .bool false, .int .i64 0, .int .i64 0, .int .i64 0, .slice (some ⟨b, 0, none⟩) 1 1, .int .i64 1, .int .i64 now, .int .i64 now]) := Lib.hid rfl
                refine step_app rfl (.tmp 120) (.tmp 127) 107 rfl HA.out Re.len i0' _ 88 Try.underlying107 HI0.out HZ0.out HZ1.out HZ2.out rfl (by decide) _ (by first | exact HTK.out | (have := HTK.out; omega)) _ _ _ [⟨to_, .inc [s] 1 now now, some ⟨b, 0, none⟩, 1⟩] rfl rfl rfl (fun _ => ⟨_, rfl, by rw [hE.out]; exact World.news_of_block Hb2.out⟩) (re_one _) (by unfold maxLen; omega) (by omega) (by omega) ?_
                intro A2 c2 Wy3 hoy3 hgy3 hay3
                have HBy3 := Lib.hid (HBy2.out.grown hgy3 hzzy3 (fun q e => by have := (HA.out.bk' (ob_bk e)).1; omega))
                have Hb' := Lib.hid ((hgy3.block _ (blk_lt Hb.out) (fun e => HNb.out (ob_bk e.symm))).trans Hb.out)
                have hlb := blk_lt Hb.out
                have HN2 : Hid (¬ BK A2 b) := Lib.hid (fun hq => (hay3 b hq).elim HNb.out (fun h => by omega))
                have HA2 := Lib.hid hoy3
                clear hoy3 hgy3 hay3
                refine hKy3.out _ _ (bcell HBy3.out t2) (fun hy3 => ?_)
                try simp only [Act.put, List.setIfInBounds_toArray, List.set_cons_zero, List.set_cons_succ]
                refine wpAnyH_ready (rs := [22]) (by kernel_rfl) (by simp) ?_
                refine AllReadyH.cons (o := ⟨some 135, _, _, _, _, _⟩) rfl (fun Ky4 hKy4 => ?_) AllReadyH.nil
                have hzzy4 := HBy3.out.size
                have hl2 : Hid ((LA ++ [(⟨to_, .inc [s] 1 now now, some ⟨b, 0, none⟩, 1⟩ : Re)]).length = LA.length + 1) := Lib.hid (by simp)
                refine step_app rfl (.tmp 128) (.tmp 134) 107 rfl HA2.out Re.len i0' _ 88 Try.underlying107 HI0.out HZ0.out HZ1.out HZ2.out rfl (by decide) _ (by rw [hl2.out, HTK.out] <;> omega) _ _ _ LB rfl rfl (by first | exact HDL.out | (have := HDL.out; omega)) (by first | exact HB2.out _ HBy3.out | exact fun h => absurd h (by omega)) (re_one _) (by unfold maxLen; omega) (by omega) (by omega) ?_
                intro A3 c3 Wy4 hoy4 hgy4 hay4
                have HBy4 := Lib.hid (HBy3.out.grown hgy4 hzzy4 (fun q e => by have := (HA2.out.bk' (ob_bk e)).1; omega))
                have Hb3 := Lib.hid ((hgy4.block _ (blk_lt Hb'.out) (fun e => HN2.out (ob_bk e.symm))).trans Hb'.out)
                have hlb3 := blk_lt Hb'.out
                have HN3 : Hid (¬ BK A3 b) := Lib.hid (fun hq => (hay4 b hq).elim HN2.out (fun h => by omega))
                have HA3 := Lib.hid hoy4
                clear hoy4 hgy4 hay4
                refine hKy4.out _ _ (bcell HBy4.out t2) (fun hy4 => ?_)
                try simp only [Act.put, List.setIfInBounds_toArray, List.set_cons_zero, List.set_cons_succ]
                refine wpAnyH_take (i := 23) (oi := ⟨some 14, _, _, _, _, _⟩) (v := ?vy4tn21i23) rfl (by kernel_rfl) (by kernel_rfl) (by kernel_rfl) (fun _ _ _ h => h) (Or.inl ⟨by rfl, ?hyy4tn21i23⟩) (by exact hy4) ?rey4tn21i23
                case hyy4tn21i23 => (intro ww hSw; (try dsimp only at hSw); go_simp; first | done | with_reducible rfl)
                try simp only [Act.put, List.setIfInBounds_toArray, List.set_cons_zero, List.set_cons_succ]
                refine wpAnyH_done (by kernel_rfl) ?_ _
                go_wp2_with fail
                go_meet
                refine ⟨A3, c3, b, ?_, ?_, Hb3.out, HBy4.out, by omega, HN3.out⟩
                · congr 1 <;> (have := HDL.out; have := HTK.out; omega)
                · have := HA3.out; rw [List.append_assoc] at this; exact this
      case rest =>
        obtain ⟨A3, c3, b, rfl, hrow, hbs, hbel, hb1, hb2⟩ := hcut
        obtain ⟨w2, rfl⟩ : ∃ wo : World, wo = wc := ⟨_, rfl⟩
        have HROW := Lib.hid hrow; have HBS := Lib.hid hbs; have HBEL := Lib.hid hbel; have HBN := Lib.hid hb2
        have hL1 : ∀ x, x ∈ LA ∨ x ∈ LB → x ∈ L1 := fun x hx => by
          rcases hx with hx | hx
          · rw [← HLA.out] at hx; exact (List.take_sublist _ _).subset hx
          · rw [← HLB.out] at hx; exact (List.drop_sublist _ _).subset hx
        have HL1 := Lib.hid hL1
        have hlen3 : (LA ++ ⟨to_, .inc [s] 1 now now, some ⟨b, 0, none⟩, 1⟩ :: LB).length = n1 + 1 := by rw [List.length_append, List.length_cons, HTK.out, HDL.out]; omega
        have HL3 := Lib.hid hlen3
        have hz1 := HC1.out.size; have hz2 := hbel.size
        have hTl := (HT.out.lt (.inl rfl : ROwn T D L T)).2
        have hTlo := HT.out.lo
        have hA3 : ∀ q, BK A3 q → w1.heap.size ≤ q := fun q hq => (hrow.bk' hq).1
        have HA3 := Lib.hid hA3
        have HT2 := Lib.hid (HT1.out.below hbel)
        have hT3 : RTab (w2.setCell ⟨T, 2, none⟩ (.slice A3 (n1 + 1) c3)) lo T c A3 c3 (LA ++ ⟨to_, .inc [s] 1 now now, some ⟨b, 0, none⟩, 1⟩ :: LB) := by
          refine ⟨?_, ?_, fun x hx => ?_, HT.out.lo, fun q hq => by have := HA3.out q hq; omega, fun x hx q hq => ?_⟩
          · rw [HL3.out]
            exact cells_eq (block_setCell (k := 2) HT2.out.tab) (by simp)
          · exact (SRow.mono HROW.out (by omega)).kept (fun a ha => Below.heap_setCell _ _ _ _ (by have := HA3.out a.block ⟨a, ha, rfl⟩; show a.block ≠ T; omega))
          · rcases List.mem_append.1 hx with hx | hx
            · exact Re.ok_kept (HT2.out.ok x (HL1.out x (.inl hx))) (fun q hq => Below.heap_setCell _ _ _ _ (by exact (HT2.out.ne2 x (HL1.out x (.inl hx)) q hq).1))
            · rcases List.mem_cons.1 hx with rfl | hx
              · exact ORow.one (by omega) ((Below.heap_setCell _ _ _ _ (by show b ≠ T; omega)).trans HBS.out)
              · exact Re.ok_kept (HT2.out.ok x (HL1.out x (.inr hx))) (fun q hq => Below.heap_setCell _ _ _ _ (by exact (HT2.out.ne2 x (HL1.out x (.inr hx)) q hq).1))
          · have hold : x ∈ L1 → q ≠ T ∧ ¬ BK A3 q := fun hx => ⟨(HT1.out.ne2 x hx q hq).1, fun r => by have := HA3.out q r; have := (HT1.out.lt (.inr (.inr ⟨x, hx, hq⟩))).2; omega⟩
            rcases List.mem_append.1 hx with hx | hx
            · exact hold (HL1.out x (.inl hx))
            · rcases List.mem_cons.1 hx with rfl | hx
              · obtain ⟨a, e, rfl⟩ := hq
                cases e
                exact ⟨by show b ≠ T; omega, HBN.out⟩
              · exact hold (HL1.out x (.inr hx))
        have HT3 := Lib.hid hT3
        have HC3 : Hid (Chg (ROwn T D L) w (w2.setCell ⟨T, 2, none⟩ (.slice A3 (n1 + 1) c3))) := Lib.hid (Chg.setCell (p := ⟨T, 2, none⟩) (((HC1.out.mono (fun q e => .inl e)).below HBEL.out)) (.inl (.inl rfl)) _)
        have HO3 : Hid (∀ q, ROwn T A3 (LA ++ ⟨to_, .inc [s] 1 now now, some ⟨b, 0, none⟩, 1⟩ :: LB) q → ROwn T D L q ∨ w.heap.size ≤ q) := Lib.hid (fun q hq => by
          have hold : ∀ x, x ∈ L1 → BK x.A q → ROwn T D L q ∨ w.heap.size ≤ q := fun x hx hq => HOW.out q (.inr (.inr ⟨x, hx, hq⟩))
          rcases hq with r | r | ⟨x, hx, r⟩
          · exact .inl (.inl r)
          · exact .inr (by have := HA3.out q r; omega)
          · rcases List.mem_append.1 hx with hx | hx
            · exact hold x (HL1.out x (.inl hx)) r
            · rcases List.mem_cons.1 hx with rfl | hx
              · obtain ⟨a, e, rfl⟩ := r
                cases e
                exact .inr (by show w.heap.size ≤ b; omega)
              · exact hold x (HL1.out x (.inr hx)) r)
        have HAB : Hid (absR (LA ++ ⟨to_, .inc [s] 1 now now, some ⟨b, 0, none⟩, 1⟩ :: LB) = rIns (roomR (absR L)) (to_, .inc [s] 1 now now)) := Lib.hid (by
          rw [← HABS.out, rIns_at L1 i (fun j e hj he => HP.out j e hj he) (by rw [HN1.out]; exact HSTOP.out) (by rw [HN1.out]; exact hi), HLA.out, HLB.out]
          unfold absR
          rw [List.map_append, List.map_cons])
        clear hrow hbs hbel hb2 hL1 hlen3 hA3 hT3 t0 t2 HT1 HROW HBS HBN HSTOP HP
        have z2 := (cell_of_block (k := 2) HT2.out.tab rfl).2
        have q2 := (cell_of_block (k := 2) HT2.out.tab rfl).1
        go_upto_region 20 with fail
        generalize w2.setCell ⟨T, 2, none⟩ (.slice A3 (n1 + 1) c3) = w3 at *
        clear z2 q2 HT2 HBEL
        go_wp2_with fail
        all_goals first | (exfalso; omega) | skip
        refine (ask_ref to_ w3 HT3.out).mono ?_
        rintro e w4 ⟨rfl, hb4⟩
        have HB4 := Lib.hid hb4
        clear hb4
        go_wp2_with fail
        all_goals first | (exfalso; omega) | skip
        go_ret3
        rw [HSR.out]
        have hz3 := HC3.out.size; have hz4 := HB4.out.size
        exact ⟨some ⟨w4.heap.size, 0, none⟩, 1, A3, c3, _, rfl, mrow_one (a := req c to_) (by omega) (alloc_new w4 _), (HT3.out.below HB4.out).below ((Below.refl _ _).alloc (Nat.le_refl _) _), HAB.out, (HC3.out.below HB4.out).alloc _, HO3.out⟩
theorem send_ref (now to_ : Int) (s : ByteArray) (w : World) (h : RTab w lo T c D d L) (hn : ((absR L).map (·.1)).Nodup) (hL : L.length ≤ 16) (hev : ∀ e ∈ L, EvI now e.v) (hs : s.size ≤ 9223372036854775807) :
    Calls Try.prog 31 #[.pointer (some ⟨T, 0, none⟩), .int .i64 now, .int .i64 to_, .string s] w fun e w' => SendRP lo T c D L w (sendR c (absR L) now to_ s) e w' := by
  by_cases hok : uniB to_ = false ∨ to_ = c.own ∨ 1024 < s.size
  · have hr : sendR c (absR L) now to_ s = (absR L, 0, [], 50) := by unfold sendR; rw [if_pos hok]
    rw [hr]
    refine (send_bad_ref now to_ s w h hs hok).mono ?_
    rintro e w' ⟨rfl, rfl⟩
    exact ⟨none, 0, D, d, L, rfl, SRow.nil _ _ _ _ _, h, rfl, Chg.refl _ _, fun q hq => .inl hq⟩
  · exact send_ok_ref now to_ s w h hn hL hev hs hok
end
end Go.Proofs.Ytjdoemmfemogmaa.Ar
