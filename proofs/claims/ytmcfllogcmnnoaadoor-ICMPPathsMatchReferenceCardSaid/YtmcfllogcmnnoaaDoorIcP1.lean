/-
  The reference's Lower.
-/
import Derived.Test.YtmcfllogcmnnoaaDoorIcP0
import Derived.Deep.CutBlock
import Derived.Deep.CutRange
namespace Go.Proofs.YtmcfllogcmnnoaaDoor.Ic
set_option maxRecDepth 100000
open Go.RowKit Go.Proofs.YtmcfllogcmnnoaaDoor.Wire Go.Proofs.YtmcfllogcmnnoaaDoor.Rw

theorem infoPath : (Tryd.prog.info? 106).map (fun i => (i.zero, i.size, i.bytes)) = some (some (.agg #[.int .i64 0, .int .i64 0, .int .i64 0]), 3, 24) := by kernel_rfl
theorem path_one (l : List En) : ∀ u ∈ l.flatMap En.row, u.oneCell' = true := by
  intro u hu
  obtain ⟨p, -, hp⟩ := List.mem_flatMap.1 hu
  simp [En.row] at hp
  rcases hp with rfl | rfl | rfl <;> rfl
theorem rValid_any (a : Int) (w : World) : Calls Tryd.prog 62 #[.int .i64 a] w fun e w' => e = .returned (.bool (decide (0 ≤ a ∧ a ≤ 4294967295))) ∧ w = w' := by
  go_enter Tryd.func62, Tryd.ntmps62
  go_wp2
  all_goals
    go_ret
    refine ⟨ret_bool ?_, rfl⟩
    rw [Bool.eq_iff_iff]; simp; try omega
section
variable {W W' : World} {lo B2 : Nat} {D : Option Addr} {d : Nat} {l : List En}
set_option maxHeartbeats 4000000 in
theorem rlower_no (now tt size : Int) (w : World) (h : ¬ lowOk now tt size) :
    Calls Tryd.prog 31 #[.pointer (some ⟨B2, 0, none⟩), .int .i64 now, .int .i64 tt, .int .i64 size] w fun e w' => e = .returned (.bool false) ∧ w = w' := by
  have HV := Lib.hid (rValid_any tt)
  by_cases h1 : now < 0
  · have d1 : decide (now < 0) = true := decide_eq_true h1
    go_enter Tryd.func31, Tryd.ntmps31
    go_wp2_with fail
    go_ret
    exact ⟨rfl, rfl⟩
  have d1 : decide (now < 0) = false := decide_eq_false h1
  by_cases h2 : 1000000000 < now
  · have d2 : decide (1000000000 < now) = true := decide_eq_true h2
    go_enter Tryd.func31, Tryd.ntmps31
    go_wp2_with fail
    go_ret
    exact ⟨rfl, rfl⟩
  have d2 : decide (1000000000 < now) = false := decide_eq_false h2
  by_cases h3 : 0 ≤ tt ∧ tt ≤ 4294967295
  · rw [decide_eq_true h3] at HV
    have h4 : size < 68 ∨ 1024 < size := by unfold lowOk at h; omega
    have h5 : decide (size < 68) = true ∨ (decide (size < 68) = false ∧ decide (1024 < size) = true) := by
      by_cases q : size < 68
      · exact .inl (decide_eq_true q)
      · exact .inr ⟨decide_eq_false q, decide_eq_true (by omega)⟩
    clear h h1 h2 h3 h4
    rcases h5 with d3 | ⟨d3, d4⟩
    all_goals
      go_enter Tryd.func31, Tryd.ntmps31
      go_wp2_with (go_at_call 62; (with_reducible refine (HV.out _).mono ?_); rintro e w' ⟨rfl, rfl⟩)
      go_ret
      exact ⟨rfl, rfl⟩
  · rw [decide_eq_false h3] at HV
    clear h h1 h2 h3
    go_enter Tryd.func31, Tryd.ntmps31
    go_wp2_with (go_at_call 62; (with_reducible refine (HV.out _).mono ?_); rintro e w' ⟨rfl, rfl⟩)
    go_ret
    exact ⟨rfl, rfl⟩
theorem filt_succ (p : En → Bool) {l : List En} {k : Nat} {e : En} (h : l[k]? = some e) : (l.take (k + 1)).filter p = (l.take k).filter p ++ (if p e = true then [e] else []) := by
  rw [List.take_add_one, h, List.filter_append]
  cases hp : p e <;> simp [hp]
theorem refP_store {w5 : World} {A5 : Option Addr} {c5 lo' : Nat} {l5 : List En} {v : Value} (ht : w5.heap[B2]? = some (.cells #[v] 57 (0, 0))) (ho : RPath w5 lo' A5 c5 l5) (hl : lo ≤ lo') (hne : ∀ q, BK A5 q → q ≠ B2) : RefP (w5.setCell ⟨B2, 0, none⟩ (.slice A5 l5.length c5)) lo B2 A5 c5 l5 :=
  ⟨cells_eq (block_setCell (k := 0) ht) (by simp), ORow.kept (orow_mono ho hl) (fun a e => Below.heap_setCell _ _ _ _ (by exact hne _ ⟨a, e, rfl⟩))⟩
set_option maxHeartbeats 8000000 in
theorem rlower_yes (now tt size : Int) (w : World) (hok : lowOk now tt size) (h : RefP w lo B2 D d l) (hk : Kept l) (hlo : lo ≤ w.heap.size) :
    Calls Tryd.prog 31 #[.pointer (some ⟨B2, 0, none⟩), .int .i64 now, .int .i64 tt, .int .i64 size] w fun e w' => e = .returned (.bool (rlowB l now tt size)) ∧ ∃ (D' : Option Addr) (d' : Nat), RefP w' lo B2 D' d' (rlowL l now tt size) ∧ (∀ q, BK D' q → BK D q ∨ w.heap.size ≤ q) ∧ Ch B2 none w w' := by
  obtain ⟨i0', hi0, hz0, hz1, hz2⟩ := info_parts infoPath
  have HI0 := Lib.hid hi0; have HZ0 := Lib.hid hz0; have HZ1 := Lib.hid hz1; have HZ2 := Lib.hid hz2
  clear hi0 hz0 hz1 hz2
  have HV := Lib.hid (rValid_any tt)
  have HOK := Lib.hid hok
  unfold lowOk at hok
  rw [decide_eq_true hok.2.1] at HV
  have d1 : decide (now < 0) = false := decide_eq_false (by omega)
  have d2 : decide (1000000000 < now) = false := decide_eq_false (by omega)
  have d3 : decide (size < 68) = false := decide_eq_false (by omega)
  have d4 : decide (1024 < size) = false := decide_eq_false (by omega)
  have HR := Lib.hid h; have HK := Lib.hid hk
  have hl := hk.len
  have hB2 := blk_lt h.tab
  obtain ⟨n, hn⟩ : ∃ n, l.length = n := ⟨_, rfl⟩
  have HN := Lib.hid hn
  rw [hn] at hl
  clear h hk hn
  have hrange : rlowL l now tt size = (if ((l.filter (freshB now)).any fun e => toB tt e && decide (e.size ≤ size)) = true then l.filter (freshB now) else pushE ((l.filter (freshB now)).filter (fun e => !toB tt e)) ⟨tt, size, now⟩) := by unfold rlowL; rw [if_pos HOK.out]
  have hrangb : rlowB l now tt size = !((l.filter (freshB now)).any fun e => toB tt e && decide (e.size ≤ size)) := by unfold rlowB; rw [if_pos HOK.out]
  have hkf := kept_filter HK.out (freshB now)
  rw [hrange, hrangb]
  clear hrange hrangb
  obtain ⟨lf, hlf⟩ : ∃ lf, l.filter (freshB now) = lf := ⟨_, rfl⟩
  rw [hlf] at hkf ⊢
  obtain ⟨ol, hol⟩ : ∃ ol, lf.filter (fun e => !toB tt e) = ol := ⟨_, rfl⟩
  obtain ⟨av, hav⟩ : ∃ av, (lf.any fun e => toB tt e && decide (e.size ≤ size)) = av := ⟨_, rfl⟩
  rw [hol, hav]
  obtain ⟨bv, hbv⟩ : ∃ bv, (!av) = bv := ⟨_, rfl⟩
  obtain ⟨fl, hfl0⟩ : ∃ fl, (if av = true then lf else pushE ol ⟨tt, size, now⟩) = fl := ⟨_, rfl⟩
  rw [hbv, hfl0]
  have HBV := Lib.hid hbv; have HFL := Lib.hid hfl0
  clear hbv hfl0
  have HKF0 := Lib.hid hkf; have HLF := Lib.hid hlf; have HOL := Lib.hid hol; have HAV := Lib.hid hav
  clear hkf hlf hol hav
  go_enter Tryd.func31, Tryd.ntmps31
  go_wp2_with (go_at_call 62; (with_reducible refine (HV.out _).mono ?_); rintro e w' ⟨rfl, rfl⟩)
  go_loopw [9, 10] (fun s9 iv wr => ∃ (k : Nat) (A : Option Addr) (c : Nat), k ≤ n ∧ iv = .int .i64 (k : Int) ∧ s9 = .slice A ((l.take k).filter (freshB now)).length c ∧ SRow 106 3 En.row wr w.heap.size A c ((l.take k).filter (freshB now)) ∧ Below w.heap.size w wr) (fun _ iv _ => n - (Go.RowKit.intOf iv).toNat)
  case atStart => exact ⟨0, none, 0, by omega, rfl, by simp, by rw [List.take_zero, List.filter_nil]; exact SRow.nil _ _ _ _ _, Below.refl _ _⟩
  case round =>
    obtain ⟨k, A, c, hkn, rfl, rfl, hrow, hb⟩ := hrel
    have HROW := Lib.hid hrow; have HB := Lib.hid hb
    clear hrow hb
    obtain ⟨wx, rfl⟩ : ∃ wo : World, wo = wr := ⟨_, rfl⟩
    have HRX := Lib.hid (HR.out.below HB.out)
    obtain ⟨t0, z0⟩ := HRX.out.tcell
    rw [HN.out] at t0
    have hsz := HB.out.size
    have hfl : ((l.take k).filter (freshB now)).length ≤ 16 := Nat.le_trans (List.length_filter_le _ _) (by rw [List.length_take]; omega)
    by_cases hlt : k < n
    · have e1 : decide ((k : Int) < (n : Int)) = true := decide_eq_true (by omega)
      have k0 : (0 : Int) ≤ (k : Int) := by omega
      have k1 : (k : Int) < (n : Int) := by omega
      obtain ⟨e, he⟩ : ∃ e, l[k]? = some e := ⟨_, List.getElem?_eq_getElem (by rw [HN.out]; exact hlt)⟩
      obtain ⟨g, off, rfl, c0, c1, c2⟩ := HRX.out.cells he
      have hoke := HK.out.ok e (List.mem_of_getElem? he)
      have hw : IntKind.i64.wrap (e.at_ + 600) = e.at_ + 600 := IntWalk.i64_in _ (by omega)
      have hfs := filt_succ (freshB now) he
      by_cases hf : now < e.at_ + 600
      · have e2 : decide (now < e.at_ + 600) = true := decide_eq_true hf
        have hff : freshB now e = true := by unfold freshB; exact decide_eq_true hf
        rw [if_pos hff] at hfs
        have HFS := Lib.hid hfs
        clear hfs hff hf he
        go_wp2_with (at_builtin; refine list_app rfl (.tmp 52) (.tmp 60) 55 rfl (HROW.out.below ((Below.refl wx.heap.size wx).alloc (Nat.le_refl _) (.cells #[.int .i64 e.to, .int .i64 e.size, .int .i64 e.at_] 106))) En.rowLen i0' _ 24 Tryd.underlying55 HI0.out HZ0.out HZ1.out HZ2.out rfl (by decide) _ rfl _ _ _ [e] rfl rfl rfl (fun _ => ⟨_, rfl, World.news_of_block (heap_alloc_new wx _)⟩) (path_one _) (by unfold maxLen; omega) (by omega) (by simp; omega) ?_; intro A' c' w3 ho hg ha)
        all_goals first | (exfalso; omega) | skip
        refine ⟨⟨k + 1, A', c', by omega, by go_num, ?_, ?_, ?_⟩, by simp [Go.RowKit.intOf]; omega⟩
        · rw [HFS.out]; simp
        · rw [HFS.out]; exact ho
        · exact (below_alloc HB.out).grown hg (by simp; omega) (fun q e => (HROW.out.bk' (ob_bk e)).1)
      · have e2 : decide (now < e.at_ + 600) = false := decide_eq_false hf
        have hff : freshB now e = false := by unfold freshB; exact decide_eq_false hf
        rw [hff, if_neg (by decide), List.append_nil] at hfs
        have HFS := Lib.hid hfs
        clear hfs hff hf he
        go_wp2_with fail
        all_goals first | (exfalso; omega) | skip
        exact ⟨⟨k + 1, A, c, by omega, by go_num, by rw [HFS.out], by rw [HFS.out]; exact HROW.out, HB.out⟩, by simp [Go.RowKit.intOf]; omega⟩
    · obtain rfl : k = n := by omega
      have e1 : decide ((k : Int) < (k : Int)) = false := decide_eq_false (by omega)
      have htk : l.take k = l := List.take_of_length_le (by rw [HN.out]; exact Nat.le_refl _)
      have hrw := HROW.out
      rw [htk] at hrw hfl ⊢
      rw [HLF.out] at hrw hfl ⊢
      have HKF := HKF0
      have hne : ∀ q, BK A q → q ≠ B2 := fun q hq => by have := (hrw.bk' hq).1; omega
      have HR2 : Hid (RefP (wx.setCell ⟨B2, 0, none⟩ (.slice A lf.length c)) w.heap.size B2 A c lf) := Lib.hid (refP_store HRX.out.tab (orow_ofS hrw) (Nat.le_refl _) hne)
      have HC2 : Hid (Ch B2 none w (wx.setCell ⟨B2, 0, none⟩ (.slice A lf.length c))) := Lib.hid ((Ch.of_below HB.out).set 0 _)
      have HA2 := Lib.hid (fun q (hq : BK A q) => (hrw.bk' hq).1)
      clear hrw hne
      go_upto_region 10 with fail
      generalize wx.setCell ⟨B2, 0, none⟩ (.slice A lf.length c) = w2 at *
      clear t0 z0 HRX HROW
      obtain ⟨n2, hn2⟩ : ∃ n2, lf.length = n2 := ⟨_, rfl⟩
      have HN2 := Lib.hid hn2
      rw [hn2] at hfl
      clear hn2
      go_wp2_with fail
      go_loopw [11, 12] (fun s11 iv wr => ∃ (k : Nat) (A2 : Option Addr) (c2 : Nat), k ≤ n2 ∧ iv = .int .i64 (k : Int) ∧ s11 = .slice A2 ((lf.take k).filter (fun e => !toB tt e)).length c2 ∧ SRow 106 3 En.row wr w2.heap.size A2 c2 ((lf.take k).filter (fun e => !toB tt e)) ∧ Below w2.heap.size w2 wr ∧ ∀ j x, j < k → lf[j]? = some x → (toB tt x && decide (x.size ≤ size)) = false) (fun _ iv _ => n2 - (Go.RowKit.intOf iv).toNat)
      case atStart => exact ⟨0, none, 0, by omega, rfl, by simp, by rw [List.take_zero, List.filter_nil]; exact SRow.nil _ _ _ _ _, Below.refl _ _, fun j x hj => by omega⟩
      case round =>
        obtain ⟨k2, A2, c2, hkn2, rfl, rfl, hrow, hb, hpre⟩ := hrel
        have HROW := Lib.hid hrow; have HB2 := Lib.hid hb; have HP := Lib.hid hpre
        clear hrow hb hpre
        obtain ⟨wy, rfl⟩ : ∃ wo : World, wo = wr := ⟨_, rfl⟩
        have HRY := Lib.hid (HR2.out.below HB2.out)
        obtain ⟨t0, z0⟩ := HRY.out.tcell
        rw [HN2.out] at t0
        have hsz2 := HB2.out.size; have hsz0 := HC2.out.size
        have hfl2 : ((lf.take k2).filter (fun e => !toB tt e)).length ≤ 16 := Nat.le_trans (List.length_filter_le _ _) (by rw [List.length_take]; omega)
        by_cases hlt : k2 < n2
        · have e1 : decide ((k2 : Int) < (n2 : Int)) = true := decide_eq_true (by omega)
          have k0 : (0 : Int) ≤ (k2 : Int) := by omega
          have k1 : (k2 : Int) < (n2 : Int) := by omega
          obtain ⟨e, he⟩ : ∃ e, lf[k2]? = some e := ⟨_, List.getElem?_eq_getElem (by rw [HN2.out]; exact hlt)⟩
          obtain ⟨g, off, rfl, c0, c1, c2'⟩ := HRY.out.cells he
          have hfs := filt_succ (fun e => !toB tt e) he
          have HE := Lib.hid he
          clear he
          have hnext : Hid ((toB tt e && decide (e.size ≤ size)) = false → ∀ j x, j < k2 + 1 → lf[j]? = some x → (toB tt x && decide (x.size ≤ size)) = false) := Lib.hid (fun h0 j x hj hx => by
            by_cases q : j = k2
            · subst q
              have := HE.out
              rw [hx] at this; cases this
              exact h0
            · exact HP.out j x (by omega) hx)
          by_cases hto : e.to = tt
          · have e2 : (e.to != tt) = false := by simp [hto]
            have e2' : (e.to == tt) = true := beq_iff_eq.2 hto
            have htb : toB tt e = true := by unfold toB; exact decide_eq_true hto
            rw [htb] at hfs
            simp only [Bool.not_true, Bool.false_eq_true, if_false, List.append_nil] at hfs
            by_cases hs : e.size ≤ size
            · have e3 : decide (e.size ≤ size) = true := decide_eq_true hs
              have hany : (lf.any fun e => toB tt e && decide (e.size ≤ size)) = true := List.any_eq_true.2 ⟨e, List.mem_of_getElem? HE.out, by rw [htb, e3]; rfl⟩
              have HANY := Lib.hid hany
              clear hany hfs htb hto hs
              go_wp2_with fail
              all_goals first | (exfalso; omega) | skip
              go_ret
              have eav : av = true := HAV.out.symm.trans HANY.out
              have ebv : bv = false := by rw [← HBV.out, eav]; rfl
              have efl : fl = lf := by rw [← HFL.out, if_pos eav]
              rw [ebv, efl]
              exact ⟨rfl, _, _, ⟨HRY.out.tab, orow_mono HRY.out.row hlo⟩, fun q hq => .inr (HA2.out q hq), HC2.out.below HB2.out⟩
            · have e3 : decide (e.size ≤ size) = false := decide_eq_false hs
              have HFS := Lib.hid hfs
              have h0 : Hid ((toB tt e && decide (e.size ≤ size)) = false) := Lib.hid (by rw [e3]; simp)
              clear hfs htb hto hs
              go_wp2_with fail
              all_goals first | (exfalso; omega) | skip
              exact ⟨⟨k2 + 1, A2, c2, by omega, by go_num, by rw [HFS.out], by rw [HFS.out]; exact HROW.out, HB2.out, hnext.out h0.out⟩, by simp [Go.RowKit.intOf]; omega⟩
          · have e2 : (e.to != tt) = true := by simp [hto]
            have e2' : (e.to == tt) = false := beq_eq_false_iff_ne.2 hto
            have htb : toB tt e = false := by unfold toB; exact decide_eq_false hto
            rw [htb] at hfs
            simp only [Bool.not_false, if_true] at hfs
            have HFS := Lib.hid hfs
            have h0 : Hid ((toB tt e && decide (e.size ≤ size)) = false) := Lib.hid (by rw [htb]; rfl)
            clear hfs htb hto
            go_wp2_with (at_builtin; refine list_app rfl (.tmp 85) (.tmp 93) 55 rfl (HROW.out.below ((Below.refl wy.heap.size wy).alloc (Nat.le_refl _) (.cells #[.int .i64 e.to, .int .i64 e.size, .int .i64 e.at_] 106))) En.rowLen i0' _ 24 Tryd.underlying55 HI0.out HZ0.out HZ1.out HZ2.out rfl (by decide) _ rfl _ _ _ [e] rfl rfl rfl (fun _ => ⟨_, rfl, World.news_of_block (heap_alloc_new wy _)⟩) (path_one _) (by unfold maxLen; omega) (by omega) (by simp; omega) ?_; intro A' c' w3 ho hg ha)
            all_goals first | (exfalso; omega) | skip
            refine ⟨⟨k2 + 1, A', c', by omega, by go_num, ?_, ?_, ?_, hnext.out h0.out⟩, by simp [Go.RowKit.intOf]; omega⟩
            · rw [HFS.out]; simp
            · rw [HFS.out]; exact ho
            · exact (below_alloc HB2.out).grown hg (by simp; omega) (fun q e => (HROW.out.bk' (ob_bk e)).1)
        · obtain rfl : k2 = n2 := by omega
          have e1 : decide ((k2 : Int) < (k2 : Int)) = false := decide_eq_false (by omega)
          have htk : lf.take k2 = lf := List.take_of_length_le (by rw [HN2.out]; exact Nat.le_refl _)
          have hany : (lf.any fun e => toB tt e && decide (e.size ≤ size)) = false := by
            rw [List.any_eq_false]
            intro x hx
            obtain ⟨j, hj⟩ := List.mem_iff_getElem?.1 hx
            rw [HP.out j x (by have := (List.getElem?_eq_some_iff.1 hj).1; rw [HN2.out] at this; exact this) hj]
            decide
          have hrw := HROW.out
          rw [htk] at hrw hfl2 ⊢
          rw [HOL.out] at hrw hfl2 ⊢
          have hav : av = false := HAV.out.symm.trans hany
          have HAF := Lib.hid hav
          have HRW := Lib.hid hrw
          obtain ⟨n3, hn3⟩ : ∃ n3, ol.length = n3 := ⟨_, rfl⟩
          have hcp := hrw.cap
          rw [hn3] at hcp hfl2 ⊢
          have HN3 := Lib.hid hn3
          clear htk hany hrw hn3 HROW HP hav
          have hyl := (HRY.out.lt (.inl rfl))
          by_cases h16 : 16 ≤ n3
          · have e3 : decide ((16 : Int) ≤ (n3 : Int)) = true := decide_eq_true (by omega)
            obtain ⟨g2, rfl, hg2⟩ := HRW.out.addr (by rw [HN3.out]; omega)
            have j1 : (1 : Int) ≤ (n3 : Int) := by omega
            have j2 : ¬ c2 = 1 := by omega
            have j3 : (1 : Int) ≤ (c2 : Int) := by omega
            have hpush : pushE ol ⟨tt, size, now⟩ = ol.tail ++ [⟨tt, size, now⟩] := by unfold pushE; rw [if_pos (by rw [HN3.out]; exact h16), List.drop_one]
            have hor : RPath wy w2.heap.size (some ⟨g2, 3, none⟩) (c2 - 1) ol.tail := by
              have h := orow_ofS HRW.out
              cases hx : ol with
              | nil => rw [hx] at HN3; have := HN3.out; simp at this; omega
              | cons x l' => rw [hx] at h; exact h.tail En.rowLen rfl
            have HOR := Lib.hid hor
            have HTL : Hid (ol.tail.length = n3 - 1) := Lib.hid (by rw [List.length_tail, HN3.out])
            have HPU := Lib.hid hpush
            clear hor hpush
            go_upto_region 21 with (at_builtin; refine list_oapp rfl (.tmp 111) (.tmp 116) 55 rfl (ORow.kept (W' := wy.alloc (.cells #[.int .i64 tt, .int .i64 size, .int .i64 now] 106)) HOR.out (fun a e => ((Below.refl wy.heap.size wy).alloc (Nat.le_refl _) _).block _ (HOR.out.bk e).2)) En.rowLen i0' _ 24 Tryd.underlying55 HI0.out HZ0.out HZ1.out HZ2.out rfl _ HTL.out ⟨wy.heap.size, 0, none⟩ _ _ [⟨tt, size, now⟩] rfl rfl rfl (by omega) (World.news_of_block (heap_alloc_new wy _)) (path_one _) (by unfold maxLen; omega) (by omega) (by simp; omega) ?_; intro A5 c5 w5 ho hg ha; have htab := (hg.block B2 (by simp; omega) (fun e => by (obtain ⟨a, e1, e2⟩ := Option.map_eq_some_iff.1 e.symm; have := (HOR.out.bk e1).1; omega))).trans (block_alloc HRY.out.tab (.cells #[.int .i64 tt, .int .i64 size, .int .i64 now] 106)); obtain ⟨t5, z5⟩ := cell_of_block (k := 0) htab rfl; have HTAB := Lib.hid htab; clear htab)
            have hA5 : ∀ q, BK A5 q → w2.heap.size ≤ q := fun q hq => (ha q hq).elim (fun r => by obtain ⟨a, e, rfl⟩ := r; exact (HOR.out.bk e).1) (fun r => by simp at r; omega)
            have hA5' : ∀ q, BK A5 q → q ≠ B2 := fun q hq => by have := hA5 q hq; omega
            have HFIN : Hid (RefP (w5.setCell ⟨B2, 0, none⟩ (.slice A5 (ol.tail ++ [(⟨tt, size, now⟩ : En)]).length c5)) lo B2 A5 c5 (ol.tail ++ [⟨tt, size, now⟩])) := Lib.hid (refP_store HTAB.out ho (by omega) hA5')
            have HCF : Hid (Ch B2 none w w5) := Lib.hid (HC2.out.below ((below_alloc HB2.out).grown hg (by simp; omega) (fun q e => by
              obtain ⟨a, e1, e2⟩ := Option.map_eq_some_iff.1 e
              have := (HOR.out.bk e1).1
              omega)))
            have hll : (ol.tail ++ [(⟨tt, size, now⟩ : En)]).length = n3 - 1 + 1 := by rw [List.length_append, HTL.out]; rfl
            rw [hll] at HFIN
            have HA5 := Lib.hid hA5
            clear ho hg ha hA5 hA5' hll t5 z5
            go_wp2_with fail
            all_goals first | (exfalso; omega) | skip
            go_ret
            have ebv : bv = true := by rw [← HBV.out, HAF.out]; rfl
            have efl : fl = pushE ol ⟨tt, size, now⟩ := by rw [← HFL.out, HAF.out]; rfl
            rw [ebv, efl, HPU.out]
            exact ⟨rfl, A5, c5, HFIN.out, fun q hq => .inr (by have := HA5.out q hq; omega), HCF.out.set 0 _⟩
          · have e3 : decide ((16 : Int) ≤ (n3 : Int)) = false := decide_eq_false (by omega)
            have hpush : pushE ol ⟨tt, size, now⟩ = ol ++ [⟨tt, size, now⟩] := by unfold pushE; rw [if_neg (by rw [HN3.out]; exact h16)]
            have HOR := Lib.hid (orow_ofS HRW.out)
            have HPU := Lib.hid hpush
            clear hpush
            go_upto_region 21 with (at_builtin; refine list_oapp rfl (.tmp 111) (.tmp 116) 55 rfl (ORow.kept (W' := wy.alloc (.cells #[.int .i64 tt, .int .i64 size, .int .i64 now] 106)) HOR.out (fun a e => ((Below.refl wy.heap.size wy).alloc (Nat.le_refl _) _).block _ (HOR.out.bk e).2)) En.rowLen i0' _ 24 Tryd.underlying55 HI0.out HZ0.out HZ1.out HZ2.out rfl _ HN3.out ⟨wy.heap.size, 0, none⟩ _ _ [⟨tt, size, now⟩] rfl rfl rfl (by omega) (World.news_of_block (heap_alloc_new wy _)) (path_one _) (by unfold maxLen; omega) (by omega) (by simp; omega) ?_; intro A5 c5 w5 ho hg ha; have htab := (hg.block B2 (by simp; omega) (fun e => by (obtain ⟨a, e1, e2⟩ := Option.map_eq_some_iff.1 e.symm; have := (HOR.out.bk e1).1; omega))).trans (block_alloc HRY.out.tab (.cells #[.int .i64 tt, .int .i64 size, .int .i64 now] 106)); obtain ⟨t5, z5⟩ := cell_of_block (k := 0) htab rfl; have HTAB := Lib.hid htab; clear htab)
            have hA5 : ∀ q, BK A5 q → w2.heap.size ≤ q := fun q hq => (ha q hq).elim (fun r => by obtain ⟨a, e, rfl⟩ := r; exact (HOR.out.bk e).1) (fun r => by simp at r; omega)
            have hA5' : ∀ q, BK A5 q → q ≠ B2 := fun q hq => by have := hA5 q hq; omega
            have HFIN : Hid (RefP (w5.setCell ⟨B2, 0, none⟩ (.slice A5 (ol ++ [(⟨tt, size, now⟩ : En)]).length c5)) lo B2 A5 c5 (ol ++ [⟨tt, size, now⟩])) := Lib.hid (refP_store HTAB.out ho (by omega) hA5')
            have HCF : Hid (Ch B2 none w w5) := Lib.hid (HC2.out.below ((below_alloc HB2.out).grown hg (by simp; omega) (fun q e => by
              obtain ⟨a, e1, e2⟩ := Option.map_eq_some_iff.1 e
              have := (HOR.out.bk e1).1
              omega)))
            have hll : (ol ++ [(⟨tt, size, now⟩ : En)]).length = n3 + 1 := by rw [List.length_append, HN3.out]; rfl
            rw [hll] at HFIN
            have HA5 := Lib.hid hA5
            clear ho hg ha hA5 hA5' hll t5 z5
            go_wp2_with fail
            all_goals first | (exfalso; omega) | skip
            go_ret
            have ebv : bv = true := by rw [← HBV.out, HAF.out]; rfl
            have efl : fl = pushE ol ⟨tt, size, now⟩ := by rw [← HFL.out, HAF.out]; rfl
            rw [ebv, efl, HPU.out]
            exact ⟨rfl, A5, c5, HFIN.out, fun q hq => .inr (by have := HA5.out q hq; omega), HCF.out.set 0 _⟩
theorem rlower_ref (now tt size : Int) (w : World) (h : RefP w lo B2 D d l) (hk : Kept l) (hlo : lo ≤ w.heap.size) :
    Calls Tryd.prog 31 #[.pointer (some ⟨B2, 0, none⟩), .int .i64 now, .int .i64 tt, .int .i64 size] w fun e w' => e = .returned (.bool (rlowB l now tt size)) ∧ ∃ (D' : Option Addr) (d' : Nat), RefP w' lo B2 D' d' (rlowL l now tt size) ∧ (∀ q, BK D' q → BK D q ∨ w.heap.size ≤ q) ∧ Ch B2 none w w' := by
  by_cases hok : lowOk now tt size
  · exact rlower_yes now tt size w hok h hk hlo
  · refine (rlower_no now tt size w hok).mono ?_
    rintro e w' ⟨rfl, rfl⟩
    unfold rlowB rlowL
    rw [if_neg hok, if_neg hok]
    exact ⟨rfl, D, d, h, fun q hq => .inl hq, Ch.refl _ _ _⟩
end
end Go.Proofs.YtmcfllogcmnnoaaDoor.Ic
