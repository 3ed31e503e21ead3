/-
  The walk of the law ReassemblyAnyOrder.
-/
import Derived.Test.YtmeldgnjgogacaaReAny
import Derived.Test.YtmeldgnjgogacaaReArgU
namespace Go.Proofs.Ytmeldgnjgogacaa.Re
set_option maxRecDepth 100000
open Go.RowKit Go.Proofs.Ytmeldgnjgogacaa.Wire
open Go.Proofs.Ytmeldgnjgogacaa.Ip (Pk vlenB VLen)

/-- what holds ahead of a round: the table, the parts, the marks -/
structure L11 (w : World) (b : ByteArray) (n lo T g pc cm m : Nat) (l : List Bool) (A : List (Ky × Hf)) (W : World) : Prop where
  st : StA b n l A
  one : OneT w T A (fun q => q = g ∨ q = cm) W
  row : PRow W lo (some ⟨g, 0, none⟩) pc (partsL b n)
  came : Sl W (.slice (some ⟨cm, 0, none⟩) m m) 4 (boC l)
theorem wrap_over (x : Int) (h : 9223372036854775807 < x) (h2 : x ≤ 18446744073709551615) : wrap64 x ≤ 0 := by unfold wrap64; omega
theorem madeBo (n : Nat) : (madeCells (Value.bool false).cells (n * 1)).toList = boC (List.replicate n false) := by
  rw [Nat.mul_one]
  have : madeCells (Value.bool false).cells n = (List.replicate n (Value.bool false)).toArray := by
    unfold madeCells
    apply Array.ext
    · simp
    · intro i h1 h2
      simp [Value.cells, Nat.mod_one]
  rw [this]; simp [boC]
theorem L11.mark {w W : World} {b : ByteArray} {n lo T g pc cm m k : Nat} {l : List Bool} {A : List (Ky × Hf)} (h : L11 w b n lo T g pc cm m l A W) (hne : g ≠ cm) (hcm : w.heap.size ≤ cm) :
    OneT w T A (fun q => q = g ∨ q = cm) (W.setCell ⟨cm, k, none⟩ (.bool true)) ∧ PRow (W.setCell ⟨cm, k, none⟩ (.bool true)) lo (some ⟨g, 0, none⟩) pc (partsL b n) ∧ Sl (W.setCell ⟨cm, k, none⟩ (.bool true)) (.slice (some ⟨cm, 0, none⟩) m m) 4 (boC (l.set k true)) := by
  refine ⟨h.one.setCell ⟨.inr rfl, hcm⟩ _, h.row.kept (fun a e => ?_), ?_⟩
  · cases e
    exact Below.heap_setCell _ _ _ _ hne
  · have := h.came.set (k := k) (.bool true)
    unfold boC at this ⊢
    rw [List.map_set]; exact this
theorem L11.next {w W W' : World} {b : ByteArray} {n lo T g pc cm m : Nat} {l : List Bool} {A' : List (Ky × Hf)} (ho : OneT w T A' (fun q => (q = g ∨ q = cm) ∧ q < W.heap.size) W') (hr : PRow W lo (some ⟨g, 0, none⟩) pc (partsL b n)) (hc : Sl W (.slice (some ⟨cm, 0, none⟩) m m) 4 (boC l))
    (hk : ∀ q, (q = g ∨ q = cm) → q < W.heap.size → W'.heap[q]? = W.heap[q]?) (hs : StA b n l A') : L11 w b n lo T g pc cm m l A' W' := by
  have h1 := hr.lt; have h2 := hc.lt.1
  refine ⟨hs, ho.more (fun q hq => .inl ⟨hq, ?_⟩), hr.kept (fun a e => by cases e; exact hk _ (.inl rfl) h1), hc.kept (fun a e => by cases e; exact hk _ (.inr rfl) h2)⟩
  rcases hq with rfl | rfl
  · exact h1
  · exact h2
theorem L11.below {w W W' : World} {b : ByteArray} {n lo T g pc cm m : Nat} {l : List Bool} {A : List (Ky × Hf)} (h : L11 w b n lo T g pc cm m l A W) (hb : Below W.heap.size W W') : L11 w b n lo T g pc cm m l A W' :=
  ⟨h.st, h.one.below hb, h.row.keptK (fun q _ hl => hb.block q hl), h.came.kept (fun a e => by cases e; exact hb.block _ h.came.lt.1)⟩
theorem pre_set {l : List Bool} {nt i k m : Nat} (h : ∀ j, nt + j < i → j < m → l[j]? = some true) (hk : i < nt ∨ k + nt = i) : ∀ j, nt + j < i + 1 → j < m → (l.set k true).length = m → (l.set k true)[j]? = some true := fun j h1 h2 h3 => by
  rw [List.length_set] at h3
  rw [List.getElem?_set]
  by_cases e : k = j
  · subst e; rw [if_pos rfl, if_pos (by omega)]
  · rw [if_neg e]; exact h j (by omega) h2
set_option maxHeartbeats 16000000 in
theorem any_law (s : ByteArray) (e : Nat) (A : Option Addr) (nt c : Nat) (tl : List Nat) (w : World) (hs : s.size ≤ 9223372036854775807) (he : e < 256) (hA : ArgU w A nt tl) :
    Calls Try.prog 4 #[.string s, .int .u8 (e : Int), .slice A nt c] w fun x w' => x = .returned (.bool true) ∧ Below w.heap.size w w' := by
  have HA := Lib.hid hA
  have hnt := hA.size
  clear hA
  go_enter Try.func4, Try.ntmps4
  go_wp2_with fail
  refine (examples_any _).mono ?_
  rintro x w1 ⟨rfl, hb1⟩
  have HB1 := Lib.hid hb1; clear hb1
  go_upto_region 4 with fail
  go_cut [8] (fun s8 wx => ∃ b : ByteArray, s8 = .string b ∧ b.size ≤ 500 ∧ wx = w1)
  case first =>
    go_wp2_with fail
    all_goals
      go_meet
      first | exact ⟨_, rfl, by rw [ByteArray.size_extract]; omega, rfl⟩ | exact ⟨_, rfl, by omega, rfl⟩
  case rest =>
    obtain ⟨b, rfl, hb5, rfl⟩ := hcut
    obtain ⟨w1, rfl⟩ : ∃ wo : World, wo = wc := ⟨_, rfl⟩
    have HPA := Lib.hid (parts_any b e w1 hb5 he)
    go_wp2_with fail
    refine HPA.out.mono ?_
    rintro x w2 ⟨⟨B, pc, rfl, hrow⟩, hb2⟩
    have hpos := partsL_pos b (cutN e) (by unfold cutN; omega)
    obtain ⟨m, hm⟩ : ∃ m, (partsL b (cutN e)).length = m := ⟨_, rfl⟩
    rw [hm] at hpos ⊢
    have HM := Lib.hid hm; clear hm
    have HROW := Lib.hid hrow; have HB2 := Lib.hid (below_call HB1.out hb2)
    have hz2 : w.heap.size ≤ w1.heap.size := HB1.out.size
    clear hrow hb2 HPA
    go_wp2_with fail
    refine (new_tt _).mono ?_
    intro x w3 hx
    obtain ⟨T, rfl, ho, hb3⟩ := OneT.ofNew HB2.out hx
    have HO3 := Lib.hid ho; have HROW3 := Lib.hid (HROW.out.keptK (fun q _ hl => hb3.block q hl))
    have hz3 := hb3.size
    clear hx ho hb3
    obtain ⟨i0, hi, hz0, hz1, hz2'⟩ := info_parts info_bool
    obtain ⟨w4, hmk, hown, hg⟩ := run_makeSlice_full (P := Try.prog) w3 0 43 4 i0 (.bool false) 1 Try.underlying43 hi hz0 hz1 .i64 .i64 m (by omega) (by rw [hz2']; omega) (by unfold maxLen; omega) (Nat.zero_le _)
    clear hi hz0 hz1 hz2'
    have HOWN := Lib.hid hown; have HG := Lib.hid hg; clear hown hg
    go_upto_region 9 with fail
    obtain ⟨g, hBg, hglo⟩ := HROW.out.addr (by rw [HM.out]; omega)
    subst hBg
    have hglt := HROW.out.lt
    have hgb : Below w3.heap.size w3 w4 := ⟨HG.out.os, HG.out.tape, HG.out.output, HG.out.size, fun k hk => HG.out.block k hk (by simp)⟩
    have HL0 : Hid (L11 w b (cutN e) w1.heap.size T g pc w3.heap.size m (List.replicate m false) [] w4) := Lib.hid ⟨by have := stA_start b (cutN e) (by unfold cutN; omega); rw [HM.out] at this; exact this,
      (HO3.out.more (fun q hq => hq.elim (fun r => .inl (by show q < w2.heap.size; rw [r]; exact hglt)) (fun r => .inr (by omega)))).below hgb,
      HROW3.out.keptK (fun q _ hl => hgb.block q hl), by
        have := HOWN.out
        rw [madeBo] at this
        unfold Sl
        have e1 : (boC (List.replicate m false)).length = m := by simp [boC]
        rw [e1]; exact this⟩
    have hne : g ≠ w3.heap.size := by have : g < w2.heap.size := hglt; omega
    have hcm : w.heap.size ≤ w3.heap.size := by have := HB2.out.size; omega
    clear hgb hmk HOWN HG hglo hglt HROW HROW3 HO3 hz2 hz3 HB2
    obtain ⟨cm, hcme⟩ : ∃ cm, w3.heap.size = cm := ⟨_, rfl⟩
    rw [hcme] at HL0 hne hcm ⊢
    clear hcme
    by_cases hov : nt + m ≤ 9223372036854775807
    · go_wp2_with fail
      go_loopw [12, 13] (fun ms i wr => ∃ (k : Nat) (l : List Bool) (A1 : List (Ky × Hf)), k ≤ nt + m ∧ i = .int .i64 (k : Int) ∧ ms = .int .i64 ((l.count false : Nat) : Int) ∧ L11 w b (cutN e) w1.heap.size T g pc cm m l A1 wr ∧ ∀ j, nt + j < k → j < m → l[j]? = some true) (fun _ i _ => nt + m - (Go.RowKit.intOf i).toNat)
      case atStart => exact ⟨0, _, [], Nat.zero_le _, rfl, by rw [List.count_replicate_self], HL0.out, fun j hj => absurd hj (Nat.not_lt_zero _)⟩
      case round =>
        clear HL0
        obtain ⟨i, l, A1', hik, rfl, rfl, hL, hpre⟩ := hrel
        have HL := Lib.hid hL; have HPRE := Lib.hid hpre; clear hL hpre
        have hll : l.length = m := HL.out.st.1.trans HM.out
        have hcl : l.count false ≤ m := by rw [← hll]; exact List.count_le_length
        have HLL := Lib.hid hll; clear hll
        obtain ⟨N, hN⟩ : ∃ N, l.count false = N := ⟨_, rfl⟩
        rw [hN] at hcl ⊢
        have HN := Lib.hid hN; clear hN
        have HAr := Lib.hid (HA.out.below HL.out.one.bel)
        have i0 : (0 : Int) ≤ (i : Int) := by omega
        by_cases hgo : i < nt + m ∧ N ≠ 0
        · obtain ⟨hi, hc0⟩ := hgo
          have d2 : decide ((0 : Int) < (N : Int)) = true := decide_eq_true (by omega)
          have d1 : decide ((i : Int) < (nt : Int) + (m : Int)) = true := decide_eq_true (by omega)
          by_cases hin : i < nt
          · obtain ⟨tb, tof, x, rfl, hx, htb, hx2, tc⟩ := HAr.out.at_ i hin
            have d3 : decide ((i : Int) < (nt : Int)) = true := decide_eq_true (by omega)
            have d4 : decide ((nt : Int) ≤ (i : Int)) = false := decide_eq_false (by omega)
            have i1 : (i : Int) < (nt : Int) := by omega
            obtain ⟨k, hkx⟩ : ∃ k, x % m = k := ⟨_, rfl⟩
            have hkm : k < m := by rw [← hkx]; exact Nat.mod_lt _ (by omega)
            have hke : (x : Int) % (m : Int) = (k : Int) := by rw [← hkx]; simp
            have hk0 : (0 : Int) ≤ (k : Int) := by omega
            have hk1 : (k : Int) < (m : Int) := by omega
            have hkj : i < nt ∨ k + nt = i := .inl hin
            clear hkx hx
            obtain ⟨bk, hbk⟩ : ∃ bk, l[k]? = some bk := ⟨_, List.getElem?_eq_getElem (by rw [HLL.out]; exact hkm)⟩
            cases bk with
            | false =>
              have HLK := Lib.hid hbk; clear hbk
              obtain ⟨c1, z1⟩ := HL.out.came.cell (k := k) (u := .bool false) (by unfold boC; rw [List.getElem?_map, HLK.out]; rfl)
              have hMc : (N : Int) - 1 = (((l.set k true).count false : Nat) : Int) := by have := count_false_set l k HLK.out; have := HN.out; omega
              obtain ⟨M, hM⟩ : ∃ M, (l.set k true).count false = M := ⟨_, rfl⟩
              rw [hM] at hMc
              have HM1 := Lib.hid hM; clear hM
              have hM5 : M ≤ 501 := by omega
              go_upto_region 19 with fail
              obtain ⟨hO5, hR5, hC5⟩ := HL.out.mark (k := k) hne hcm
              have HO5 := Lib.hid hO5; have HR5 := Lib.hid hR5; have HC5 := Lib.hid hC5; clear hO5 hR5 hC5 c1 z1 hMc
              generalize World.setCell wr ⟨cm, k, none⟩ (.bool true) = w5 at *
              obtain ⟨P, hP⟩ : ∃ P, (partsL b (cutN e))[k]? = some P := ⟨_, List.getElem?_eq_getElem (by rw [HM.out]; omega)⟩
              obtain ⟨A1, q, ok, hput, hst, hok, hq⟩ := stA_put hb5 (by unfold cutN; omega) (by unfold cutN; omega) HL.out.st (by rw [HN.out]; omega) hP (i : Int)
              have HPUT := Lib.hid (HO5.out.put (i : Int) P A1 q ok 0 hput (by have := stA_valid hb5 hP; omega) (.inl (by have := stA_length HL.out.st; omega)) (by have := stA_length HL.out.st; omega) (by unfold In64; omega))
              obtain ⟨p0, p1, p2, p3, p4, p5, p6, p7, p8⟩ := HR5.out.cells hP
              have HST := Lib.hid hst; rw [HM1.out] at hok; have HOK := Lib.hid hok; have HQ := Lib.hid hq; clear hst hok hq hput hP
              have hz5 := HO5.out.bel.size
              go_wp2_with fail
              refine HPUT.out.mono ?_
              rintro x w6 ⟨rfl, ho6, hz6, hk6⟩
              have HL6 := Lib.hid (L11.next ho6 HR5.out HC5.out hk6 HST.out)
              clear HPUT ho6 hk6 p0 p1 p2 p3 p4 p5 p6 p7 p8
              unfold PutRes PkV
              cases ok with
              | true =>
                obtain rfl := HQ.out rfl
                have hM0 := HOK.out.1 rfl
                subst hM0
                unfold baseP
                dsimp only
                go_upto_region 20 with fail
                have HN7 := Lib.hid (alloc_new w6 (.cells #[.int .i64 1, .int .i64 2, .int .i64 6, .int .i64 9, .int .i64 77, .bool false, .bool false, .int .i64 0, .string b] 30))
                have HL7 := Lib.hid (HL6.out.below ((Below.refl _ _).alloc (Nat.le_refl _) (.cells #[.int .i64 1, .int .i64 2, .int .i64 6, .int .i64 9, .int .i64 77, .bool false, .bool false, .int .i64 0, .string b] 30)))
                generalize w6.alloc (.cells #[.int .i64 1, .int .i64 2, .int .i64 6, .int .i64 9, .int .i64 77, .bool false, .bool false, .int .i64 0, .string b] 30) = w7 at *
                have qN70 := (cell_of_block (k := 0) HN7.out rfl).1; have zN70 := (cell_of_block (k := 0) HN7.out rfl).2; have qN71 := (cell_of_block (k := 1) HN7.out rfl).1; have zN71 := (cell_of_block (k := 1) HN7.out rfl).2; have qN72 := (cell_of_block (k := 2) HN7.out rfl).1; have zN72 := (cell_of_block (k := 2) HN7.out rfl).2; have qN73 := (cell_of_block (k := 3) HN7.out rfl).1; have zN73 := (cell_of_block (k := 3) HN7.out rfl).2; have qN74 := (cell_of_block (k := 4) HN7.out rfl).1; have zN74 := (cell_of_block (k := 4) HN7.out rfl).2; have qN75 := (cell_of_block (k := 5) HN7.out rfl).1; have zN75 := (cell_of_block (k := 5) HN7.out rfl).2; have qN76 := (cell_of_block (k := 6) HN7.out rfl).1; have zN76 := (cell_of_block (k := 6) HN7.out rfl).2; have qN77 := (cell_of_block (k := 7) HN7.out rfl).1; have zN77 := (cell_of_block (k := 7) HN7.out rfl).2; have qN78 := (cell_of_block (k := 8) HN7.out rfl).1; have zN78 := (cell_of_block (k := 8) HN7.out rfl).2; have lt_N7 := blk_lt HN7.out
                go_wp2_with fail
                refine ⟨⟨i + 1, l.set k true, A1, by omega, by go_num, by rw [HM1.out], HL7.out, fun j hj1 hj2 => ?_⟩, by simp [Go.RowKit.intOf]; omega⟩
                exact pre_set HPRE.out hkj j (by omega) hj2 (by rw [List.length_set]; exact HLL.out)
              | false =>
                have hM0 : M ≠ 0 := fun q => by have := HOK.out.2 q; cases this
                have d7 : ((M : Int) == 0) = false := by rw [beq_eq_false_iff_ne]; omega
                clear hM0
                obtain ⟨w7, hw7⟩ : ∃ w7 : World, w6.alloc (.cells #[.int .i64 q.f, .int .i64 q.t, .int .i64 q.pr, .int .i64 q.ttl, .int .i64 q.id, .bool q.df, .bool q.mf, .int .i64 q.off, .string q.s] 30) = w7 := ⟨_, rfl⟩
                have HL7 := Lib.hid (HL6.out.below ((Below.refl _ _).alloc (Nat.le_refl _) (.cells #[.int .i64 q.f, .int .i64 q.t, .int .i64 q.pr, .int .i64 q.ttl, .int .i64 q.id, .bool q.df, .bool q.mf, .int .i64 q.off, .string q.s] 30)))
                rw [hw7] at HL7
                go_wp2_with fail
                refine ⟨⟨i + 1, l.set k true, A1, by omega, by go_num, by rw [HM1.out], HL7.out, fun j hj1 hj2 => ?_⟩, by simp [Go.RowKit.intOf]; omega⟩
                exact pre_set HPRE.out hkj j (by omega) hj2 (by rw [List.length_set]; exact HLL.out)
            | true =>
              have HLK := Lib.hid hbk; clear hbk
              obtain ⟨c1, z1⟩ := HL.out.came.cell (k := k) (u := .bool true) (by unfold boC; rw [List.getElem?_map, HLK.out]; rfl)
              have hMc : (N : Int) = (((l.set k true).count false : Nat) : Int) := by rw [set_true_same l k HLK.out, HN.out]
              obtain ⟨M, hM⟩ : ∃ M, (l.set k true).count false = M := ⟨_, rfl⟩
              rw [hM] at hMc
              have HM1 := Lib.hid hM; clear hM
              have hM5 : M ≤ 501 := by omega
              have hM6 : 1 ≤ M := by omega
              go_upto_region 19 with fail
              obtain ⟨hO5, hR5, hC5⟩ := HL.out.mark (k := k) hne hcm
              have HO5 := Lib.hid hO5; have HR5 := Lib.hid hR5; have HC5 := Lib.hid hC5; clear hO5 hR5 hC5 c1 z1 hMc
              generalize World.setCell wr ⟨cm, k, none⟩ (.bool true) = w5 at *
              obtain ⟨P, hP⟩ : ∃ P, (partsL b (cutN e))[k]? = some P := ⟨_, List.getElem?_eq_getElem (by rw [HM.out]; omega)⟩
              obtain ⟨A1, q, ok, hput, hst, hok, hq⟩ := stA_put hb5 (by unfold cutN; omega) (by unfold cutN; omega) HL.out.st (by rw [HN.out]; omega) hP (i : Int)
              have HPUT := Lib.hid (HO5.out.put (i : Int) P A1 q ok 0 hput (by have := stA_valid hb5 hP; omega) (.inl (by have := stA_length HL.out.st; omega)) (by have := stA_length HL.out.st; omega) (by unfold In64; omega))
              obtain ⟨p0, p1, p2, p3, p4, p5, p6, p7, p8⟩ := HR5.out.cells hP
              have HST := Lib.hid hst; rw [HM1.out] at hok; have HOK := Lib.hid hok; have HQ := Lib.hid hq; clear hst hok hq hput hP
              have hz5 := HO5.out.bel.size
              go_wp2_with fail
              refine HPUT.out.mono ?_
              rintro x w6 ⟨rfl, ho6, hz6, hk6⟩
              have HL6 := Lib.hid (L11.next ho6 HR5.out HC5.out hk6 HST.out)
              clear HPUT ho6 hk6 p0 p1 p2 p3 p4 p5 p6 p7 p8
              unfold PutRes PkV
              cases ok with
              | true =>
                exact absurd (HOK.out.1 rfl) (by omega)
              | false =>
                have hM0 : M ≠ 0 := fun q => by have := HOK.out.2 q; cases this
                have d7 : ((M : Int) == 0) = false := by rw [beq_eq_false_iff_ne]; omega
                clear hM0
                obtain ⟨w7, hw7⟩ : ∃ w7 : World, w6.alloc (.cells #[.int .i64 q.f, .int .i64 q.t, .int .i64 q.pr, .int .i64 q.ttl, .int .i64 q.id, .bool q.df, .bool q.mf, .int .i64 q.off, .string q.s] 30) = w7 := ⟨_, rfl⟩
                have HL7 := Lib.hid (HL6.out.below ((Below.refl _ _).alloc (Nat.le_refl _) (.cells #[.int .i64 q.f, .int .i64 q.t, .int .i64 q.pr, .int .i64 q.ttl, .int .i64 q.id, .bool q.df, .bool q.mf, .int .i64 q.off, .string q.s] 30)))
                rw [hw7] at HL7
                go_wp2_with fail
                refine ⟨⟨i + 1, l.set k true, A1, by omega, by go_num, by rw [HM1.out], HL7.out, fun j hj1 hj2 => ?_⟩, by simp [Go.RowKit.intOf]; omega⟩
                exact pre_set HPRE.out hkj j (by omega) hj2 (by rw [List.length_set]; exact HLL.out)
          · have d3 : decide ((i : Int) < (nt : Int)) = false := decide_eq_false (by omega)
            have d4 : decide ((nt : Int) ≤ (i : Int)) = true := decide_eq_true (by omega)
            obtain ⟨k, hkx⟩ : ∃ k, i - nt = k := ⟨_, rfl⟩
            have hkm : k < m := by omega
            have hke : (i : Int) - (nt : Int) = (k : Int) := by omega
            have hk0 : (0 : Int) ≤ (k : Int) := by omega
            have hk1 : (k : Int) < (m : Int) := by omega
            have hkj : i < nt ∨ k + nt = i := .inr (by omega)
            clear hkx
            obtain ⟨bk, hbk⟩ : ∃ bk, l[k]? = some bk := ⟨_, List.getElem?_eq_getElem (by rw [HLL.out]; exact hkm)⟩
            cases bk with
            | false =>
              have HLK := Lib.hid hbk; clear hbk
              obtain ⟨c1, z1⟩ := HL.out.came.cell (k := k) (u := .bool false) (by unfold boC; rw [List.getElem?_map, HLK.out]; rfl)
              have hMc : (N : Int) - 1 = (((l.set k true).count false : Nat) : Int) := by have := count_false_set l k HLK.out; have := HN.out; omega
              obtain ⟨M, hM⟩ : ∃ M, (l.set k true).count false = M := ⟨_, rfl⟩
              rw [hM] at hMc
              have HM1 := Lib.hid hM; clear hM
              have hM5 : M ≤ 501 := by omega
              go_upto_region 19 with fail
              obtain ⟨hO5, hR5, hC5⟩ := HL.out.mark (k := k) hne hcm
              have HO5 := Lib.hid hO5; have HR5 := Lib.hid hR5; have HC5 := Lib.hid hC5; clear hO5 hR5 hC5 c1 z1 hMc
              generalize World.setCell wr ⟨cm, k, none⟩ (.bool true) = w5 at *
              obtain ⟨P, hP⟩ : ∃ P, (partsL b (cutN e))[k]? = some P := ⟨_, List.getElem?_eq_getElem (by rw [HM.out]; omega)⟩
              obtain ⟨A1, q, ok, hput, hst, hok, hq⟩ := stA_put hb5 (by unfold cutN; omega) (by unfold cutN; omega) HL.out.st (by rw [HN.out]; omega) hP (i : Int)
              have HPUT := Lib.hid (HO5.out.put (i : Int) P A1 q ok 0 hput (by have := stA_valid hb5 hP; omega) (.inl (by have := stA_length HL.out.st; omega)) (by have := stA_length HL.out.st; omega) (by unfold In64; omega))
              obtain ⟨p0, p1, p2, p3, p4, p5, p6, p7, p8⟩ := HR5.out.cells hP
              have HST := Lib.hid hst; rw [HM1.out] at hok; have HOK := Lib.hid hok; have HQ := Lib.hid hq; clear hst hok hq hput hP
              have hz5 := HO5.out.bel.size
              go_wp2_with fail
              refine HPUT.out.mono ?_
              rintro x w6 ⟨rfl, ho6, hz6, hk6⟩
              have HL6 := Lib.hid (L11.next ho6 HR5.out HC5.out hk6 HST.out)
              clear HPUT ho6 hk6 p0 p1 p2 p3 p4 p5 p6 p7 p8
              unfold PutRes PkV
              cases ok with
              | true =>
                obtain rfl := HQ.out rfl
                have hM0 := HOK.out.1 rfl
                subst hM0
                unfold baseP
                dsimp only
                go_upto_region 20 with fail
                have HN7 := Lib.hid (alloc_new w6 (.cells #[.int .i64 1, .int .i64 2, .int .i64 6, .int .i64 9, .int .i64 77, .bool false, .bool false, .int .i64 0, .string b] 30))
                have HL7 := Lib.hid (HL6.out.below ((Below.refl _ _).alloc (Nat.le_refl _) (.cells #[.int .i64 1, .int .i64 2, .int .i64 6, .int .i64 9, .int .i64 77, .bool false, .bool false, .int .i64 0, .string b] 30)))
                generalize w6.alloc (.cells #[.int .i64 1, .int .i64 2, .int .i64 6, .int .i64 9, .int .i64 77, .bool false, .bool false, .int .i64 0, .string b] 30) = w7 at *
                have qN70 := (cell_of_block (k := 0) HN7.out rfl).1; have zN70 := (cell_of_block (k := 0) HN7.out rfl).2; have qN71 := (cell_of_block (k := 1) HN7.out rfl).1; have zN71 := (cell_of_block (k := 1) HN7.out rfl).2; have qN72 := (cell_of_block (k := 2) HN7.out rfl).1; have zN72 := (cell_of_block (k := 2) HN7.out rfl).2; have qN73 := (cell_of_block (k := 3) HN7.out rfl).1; have zN73 := (cell_of_block (k := 3) HN7.out rfl).2; have qN74 := (cell_of_block (k := 4) HN7.out rfl).1; have zN74 := (cell_of_block (k := 4) HN7.out rfl).2; have qN75 := (cell_of_block (k := 5) HN7.out rfl).1; have zN75 := (cell_of_block (k := 5) HN7.out rfl).2; have qN76 := (cell_of_block (k := 6) HN7.out rfl).1; have zN76 := (cell_of_block (k := 6) HN7.out rfl).2; have qN77 := (cell_of_block (k := 7) HN7.out rfl).1; have zN77 := (cell_of_block (k := 7) HN7.out rfl).2; have qN78 := (cell_of_block (k := 8) HN7.out rfl).1; have zN78 := (cell_of_block (k := 8) HN7.out rfl).2; have lt_N7 := blk_lt HN7.out
                go_wp2_with fail
                refine ⟨⟨i + 1, l.set k true, A1, by omega, by go_num, by rw [HM1.out], HL7.out, fun j hj1 hj2 => ?_⟩, by simp [Go.RowKit.intOf]; omega⟩
                exact pre_set HPRE.out hkj j (by omega) hj2 (by rw [List.length_set]; exact HLL.out)
              | false =>
                have hM0 : M ≠ 0 := fun q => by have := HOK.out.2 q; cases this
                have d7 : ((M : Int) == 0) = false := by rw [beq_eq_false_iff_ne]; omega
                clear hM0
                obtain ⟨w7, hw7⟩ : ∃ w7 : World, w6.alloc (.cells #[.int .i64 q.f, .int .i64 q.t, .int .i64 q.pr, .int .i64 q.ttl, .int .i64 q.id, .bool q.df, .bool q.mf, .int .i64 q.off, .string q.s] 30) = w7 := ⟨_, rfl⟩
                have HL7 := Lib.hid (HL6.out.below ((Below.refl _ _).alloc (Nat.le_refl _) (.cells #[.int .i64 q.f, .int .i64 q.t, .int .i64 q.pr, .int .i64 q.ttl, .int .i64 q.id, .bool q.df, .bool q.mf, .int .i64 q.off, .string q.s] 30)))
                rw [hw7] at HL7
                go_wp2_with fail
                refine ⟨⟨i + 1, l.set k true, A1, by omega, by go_num, by rw [HM1.out], HL7.out, fun j hj1 hj2 => ?_⟩, by simp [Go.RowKit.intOf]; omega⟩
                exact pre_set HPRE.out hkj j (by omega) hj2 (by rw [List.length_set]; exact HLL.out)
            | true =>
              have HLK := Lib.hid hbk; clear hbk
              obtain ⟨c1, z1⟩ := HL.out.came.cell (k := k) (u := .bool true) (by unfold boC; rw [List.getElem?_map, HLK.out]; rfl)
              go_wp2_with fail
              refine ⟨⟨i + 1, l, A1', by omega, by go_num, by rw [HN.out], HL.out, fun j hj1 hj2 => ?_⟩, by simp [Go.RowKit.intOf]; omega⟩
              rcases Nat.lt_or_ge (nt + j) i with r | r
              · exact HPRE.out j r hj2
              · have : j = k := by rcases hkj with q | q <;> omega
                rw [this]; exact HLK.out
        · have hc0 : N = 0 := by
            apply Classical.byContradiction
            intro hc
            have hi : i = nt + m := by
              apply Classical.byContradiction
              intro hi
              exact hgo ⟨by omega, hc⟩
            apply hc
            rw [← HN.out, count_false_zero]
            intro j hj
            have := HPRE.out j (by rw [HLL.out] at hj; omega) (by rw [HLL.out] at hj; exact hj)
            rw [List.getD_eq_getElem?_getD, this]; rfl
          have hA1 := stA_done HL.out.st (HN.out.trans hc0)
          subst hA1
          have HSZ := Lib.hid (HL.out.one.sizes 0 0 rfl rfl (by omega))
          have HBL := Lib.hid HL.out.one.bel
          subst hc0
          by_cases hi : i < nt + m
          · have d1 : decide ((i : Int) < (nt : Int) + (m : Int)) = true := decide_eq_true (by omega)
            clear hgo
            go_wp2_with fail
            refine HSZ.out.mono ?_
            rintro x s2 ⟨rfl, hb2⟩
            have HB9 := Lib.hid (below_call HBL.out hb2); clear hb2
            go_wp2_with fail
            go_ret
            exact ⟨rfl, HB9.out⟩
          · have d1 : decide ((i : Int) < (nt : Int) + (m : Int)) = false := decide_eq_false (by omega)
            clear hgo
            go_wp2_with fail
            refine HSZ.out.mono ?_
            rintro x s2 ⟨rfl, hb2⟩
            have HB9 := Lib.hid (below_call HBL.out hb2); clear hb2
            go_wp2_with fail
            go_ret
            exact ⟨rfl, HB9.out⟩
    · obtain ⟨Z, hw, hZ⟩ : ∃ Z, wrap64 ((nt : Int) + (m : Int)) = Z ∧ Z ≤ 0 := ⟨_, rfl, wrap_over _ (by omega) (by omega)⟩
      have d1 : decide ((0 : Int) < Z) = false := decide_eq_false (by omega)
      have HBL := Lib.hid HL0.out.one.bel
      have HSZ := Lib.hid (HL0.out.one.sizes 0 0 rfl rfl (by omega))
      have hm0 : decide ((0 : Int) < (m : Int)) = true := decide_eq_true (by omega)
      clear hov HL0
      go_wp2_with fail
      go_loopw [13] (fun i wr => i = .int .i64 0 ∧ wr = w4) (fun _ _ => 0)
      case atStart => exact ⟨rfl, rfl⟩
      case round =>
        obtain ⟨rfl, rfl⟩ := hrel
        go_wp2_with fail
        refine HSZ.out.mono ?_
        rintro x s2 ⟨rfl, hb2⟩
        have HB9 := Lib.hid (below_call HBL.out hb2); clear hb2
        go_wp2_with fail
        go_ret
        exact ⟨rfl, HB9.out⟩
theorem any_law' (s : ByteArray) (e : Int) (A : Option Addr) (nt c : Nat) (tl : List Nat) (w : World) (hs : s.size ≤ 9223372036854775807) (he : 0 ≤ e ∧ e ≤ 255) (hA : ArgU w A nt tl) :
    Calls Try.prog 4 #[.string s, .int .u8 e, .slice A nt c] w fun x w' => x = .returned (.bool true) ∧ Below w.heap.size w w' := by
  obtain ⟨n, rfl⟩ := Int.eq_ofNat_of_zero_le he.1
  exact any_law s n A nt c tl w hs (by omega) hA
end Go.Proofs.Ytmeldgnjgogacaa.Re
