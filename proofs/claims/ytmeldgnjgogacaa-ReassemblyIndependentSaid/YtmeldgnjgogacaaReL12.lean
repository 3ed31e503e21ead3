/-
  The walk of the law ReassemblyIndependent.
-/
import Derived.Test.YtmeldgnjgogacaaReInd
namespace Go.Proofs.Ytmeldgnjgogacaa.Re
set_option maxRecDepth 100000
open Go.RowKit Go.Proofs.Ytmeldgnjgogacaa.Wire
open Go.Proofs.Ytmeldgnjgogacaa.Ip (Pk vlenB VLen)

/-- what holds ahead of a round: the table, the parts -/
structure L12 (w : World) (b : ByteArray) (n lo T g pc j : Nat) (A : List (Ky × Hf)) (W : World) : Prop where
  st : St12 b n j A
  one : OneT w T A (fun q => q = g) W
  row : PRow W lo (some ⟨g, 0, none⟩) pc (partsL b n)
theorem L12.below {w W W' : World} {b : ByteArray} {n lo T g pc j : Nat} {A : List (Ky × Hf)} (h : L12 w b n lo T g pc j A W) (hb : Below W.heap.size W W') : L12 w b n lo T g pc j A W' := ⟨h.st, h.one.below hb, h.row.keptK (fun q _ hl => hb.block q hl)⟩
theorem L12.put {w W : World} {b : ByteArray} {n lo T g pc j j' : Nat} {A A' : List (Ky × Hf)} (h : L12 w b n lo T g pc j A W) (p q : Pk) (ok : Bool) (err : Int) (he : putA A 0 p = (A', q, ok, err)) (hs : p.s.size ≤ 9223372036854775807) (hst : St12 b n j' A') :
    Calls Try.prog 16 #[.pointer (some ⟨T, 0, none⟩), .int .i64 0, .agg #[.int .i64 p.f, .int .i64 p.t, .int .i64 p.pr, .int .i64 p.ttl, .int .i64 p.id, .bool p.df, .bool p.mf, .int .i64 p.off, .string p.s]] W fun x w' => x = PutRes q ok err ∧ L12 w b n lo T g pc j' A' w' := by
  have hl := h.st.length
  have hg := h.row.lt
  refine (h.one.put 0 p A' q ok err he hs (.inl (by omega)) (by omega) (by unfold In64; omega)).mono ?_
  rintro x w' ⟨hx, ho, -, hk⟩
  exact ⟨hx, hst, ho.more (fun q hq => .inl ⟨hq, by rw [hq]; exact hg⟩), h.row.kept (fun a e => by cases e; exact hk _ rfl hg)⟩
set_option maxHeartbeats 16000000 in
theorem ind_law (s : ByteArray) (e : Nat) (A : Option Addr) (no c : Nat) (ol : List Prw) (w : World) (hs : s.size ≤ 9223372036854775807) (he : e < 256) (hA : ArgP w A no ol) :
    Calls Try.prog 5 #[.string s, .int .u8 (e : Int), .slice A no c] w fun x w' => x = .returned (.bool true) ∧ Below w.heap.size w w' := by
  have HA := Lib.hid hA
  have hno := hA.size
  clear hA
  go_enter Try.func5, Try.ntmps5
  go_wp2_with fail
  refine (examples_any _).mono ?_
  rintro x w1 ⟨rfl, hb1⟩
  have HB1 := Lib.hid hb1; clear hb1
  go_upto_region 4 with fail
  go_cut [8] (fun s8 wx => ∃ b : ByteArray, s8 = .string b ∧ b.size ≤ 500 ∧ wx = w1)
  case first =>
    go_wp2_with fail
    all_goals
      go_meet
      first | exact ⟨_, rfl, by rw [ByteArray.size_extract]; omega, rfl⟩ | exact ⟨_, rfl, by omega, rfl⟩
  case rest =>
    obtain ⟨b, rfl, hb5, rfl⟩ := hcut
    obtain ⟨w1, rfl⟩ : ∃ wo : World, wo = wc := ⟨_, rfl⟩
    have HPA := Lib.hid (parts_any b e w1 hb5 he)
    go_wp2_with fail
    refine HPA.out.mono ?_
    rintro x w2 ⟨⟨B, pc, rfl, hrow⟩, hb2⟩
    have hpos := partsL_pos b (cutN e) (by unfold cutN; omega)
    obtain ⟨m, hm⟩ : ∃ m, (partsL b (cutN e)).length = m := ⟨_, rfl⟩
    rw [hm] at hpos ⊢
    have HM := Lib.hid hm; clear hm
    have HROW := Lib.hid hrow; have HB2 := Lib.hid (below_call HB1.out hb2)
    clear hrow hb2 HPA
    go_wp2_with fail
    refine (new_tt _).mono ?_
    intro x w3 hx
    obtain ⟨T, rfl, ho, hb3⟩ := OneT.ofNew HB2.out hx
    have HO3 := Lib.hid ho; have HROW3 := Lib.hid (HROW.out.keptK (fun q _ hl => hb3.block q hl))
    clear hx ho hb3
    obtain ⟨g, hBg, hglo⟩ := HROW.out.addr (by rw [HM.out]; omega)
    subst hBg
    have hglt := HROW.out.lt
    have HL0 : Hid (L12 w b (cutN e) w1.heap.size T g pc 0 [] w3) := Lib.hid ⟨st12_start b (cutN e) (by unfold cutN; omega), HO3.out.more (fun q hq => .inl (by show q < w2.heap.size; rw [hq]; exact hglt)), HROW3.out⟩
    clear HROW HROW3 HO3 HB2 hglo hglt
    go_wp2_with fail
    go_loopw [11] (fun i wr => ∃ (j : Nat) (A1 : List (Ky × Hf)), j ≤ m ∧ i = .int .i64 (j : Int) ∧ L12 w b (cutN e) w1.heap.size T g pc j A1 wr) (fun i _ => m - (Go.RowKit.intOf i).toNat)
    case atStart => exact ⟨0, [], Nat.zero_le _, rfl, HL0.out⟩
    case round =>
      clear HL0
      obtain ⟨j, A1, hj, rfl, hL⟩ := hrel
      have HL := Lib.hid hL; clear hL
      have j0 : (0 : Int) ≤ (j : Int) := by omega
      by_cases hjm : j < m
      · have d1 : decide ((j : Int) < (m : Int)) = true := decide_eq_true (by omega)
        obtain ⟨wo, rfl⟩ : ∃ wo : World, wo = wr := ⟨_, rfl⟩
        go_wp2_with fail
        go_loopw [12] (fun i wr => ∃ (k : Nat) (A2 : List (Ky × Hf)), k ≤ no ∧ k ≤ 20 ∧ i = .int .i64 (k : Int) ∧ L12 w b (cutN e) w1.heap.size T g pc j A2 wr) (fun i _ => 20 - (Go.RowKit.intOf i).toNat)
        case atStart => exact ⟨0, A1, Nat.zero_le _, by omega, rfl, HL.out⟩
        case round =>
          clear HL
          obtain ⟨k, A2, hkn, hk20, rfl, hL⟩ := hrel
          have HL := Lib.hid hL; clear hL
          have k0 : (0 : Int) ≤ (k : Int) := by omega
          by_cases hlt : k < no ∧ k < 20
          · have hl1 := hlt.1; have hl2 := hlt.2
            have d2 : decide ((k : Int) < (no : Int)) = true := decide_eq_true (by omega)
            have d3 : decide ((k : Int) < 20) = true := decide_eq_true (by omega)
            have k1 : (k : Int) < (no : Int) := by omega
            obtain ⟨r, hr⟩ : ∃ r, k % m = r := ⟨_, rfl⟩
            have hke : (k : Int) % (m : Int) = (r : Int) := by rw [← hr]; simp
            clear hr
            by_cases hrj : r = j
            · have d4 : ((r : Int) == (j : Int)) = true := by rw [hrj]; simp
              obtain ⟨ob, oo, x, rfl, hx, hob, hok, c0, c1, c2, c3, c4⟩ := (HA.out.below HL.out.one.bel).at_ k hlt.1
              have HOK := Lib.hid hok
              obtain ⟨v, hv⟩ : ∃ v, x.wh % 6 = v := ⟨_, rfl⟩
              have hv6 : v < 6 := by omega
              have hve : (x.wh : Int) % 6 = (v : Int) := by omega
              clear hx hok hv hlt hrj
              go_wp2_with fail
              refine (partOf_any v x.of x.lo x.mo x.od _ (by omega) HOK.out.2.1 HOK.out.2.2.1 HOK.out.2.2.2.2).mono ?_
              rintro y w4 ⟨rfl, hb4⟩
              have HL4 := Lib.hid (HL.out.below (below_call (below_alloc (o := .cells #[.int .u8 (v : Int), .int .u8 ((x.of : Nat) : Int), .int .u8 ((x.lo : Nat) : Int), .bool x.mo, .int .u8 ((x.od : Nat) : Int)] 23) (Below.refl wr.heap.size wr)) hb4))
              have hpv := partOf_valid v x.of x.lo x.mo x.od
              have hps := partOf_size v x.of x.lo x.mo x.od
              have hpk := partOf_key v x.of x.lo x.mo x.od
              have hpl := partN_le x.lo x.mo
              obtain ⟨P, hP⟩ : ∃ P, partOf v x.of x.lo x.mo x.od = P := ⟨_, rfl⟩
              rw [hP] at hpv hps hpk ⊢
              obtain ⟨A3, q, ok, err, hput, hst⟩ := st12_other HL4.out.st hpv hv6 hpk
              have HPUT := Lib.hid (HL4.out.put P q ok err hput (by omega) hst)
              clear hP hpv hps hpk hpl hput hst hb4 c0 c1 c2 c3 c4 hve d4 HL
              unfold PkV
              go_wp2_with fail
              refine HPUT.out.mono ?_
              rintro y w5 ⟨rfl, hL5⟩
              have HL5 := Lib.hid hL5; clear hL5 HPUT
              unfold PutRes
              go_wp2_with fail
              exact ⟨⟨k + 1, A3, by omega, by omega, by go_num, HL5.out⟩, by simp [Go.RowKit.intOf]; omega⟩
            · have d4 : ((r : Int) == (j : Int)) = false := by rw [beq_eq_false_iff_ne]; omega
              clear hlt hrj
              go_wp2_with fail
              exact ⟨⟨k + 1, A2, by omega, by omega, by go_num, HL.out⟩, by simp [Go.RowKit.intOf]; omega⟩
          · have d3 : k < no → decide ((k : Int) < 20) = false := fun h => decide_eq_false (by omega)
            obtain ⟨P, hP⟩ : ∃ P, (partsL b (cutN e))[j]? = some P := ⟨_, List.getElem?_eq_getElem (by rw [HM.out]; omega)⟩
            obtain ⟨A3, q, ok, hput, hst, hok, hq⟩ := st12_put hb5 (by unfold cutN; omega) (by unfold cutN; omega) HL.out.st hP
            have HPUT := Lib.hid (HL.out.put P q ok 0 hput (by have := stA_valid hb5 hP; omega) hst)
            obtain ⟨p0, p1, p2, p3, p4, p5, p6, p7, p8⟩ := HL.out.row.cells hP
            rw [HM.out] at hok
            have HOK := Lib.hid hok; have HQ := Lib.hid hq; clear hst hok hq hput hP
            have j1 : (j : Int) < (m : Int) := by omega
            by_cases hkn2 : k < no
            · have d2 : decide ((k : Int) < (no : Int)) = true := decide_eq_true (by omega)
              have d3 := d3 hkn2
              clear hlt
              go_wp2_with fail
              refine HPUT.out.mono ?_
              rintro y w5 ⟨rfl, hL5⟩
              have HL5 := Lib.hid hL5; clear hL5 HPUT p0 p1 p2 p3 p4 p5 p6 p7 p8
              unfold PutRes PkV
              cases ok with
              | true =>
                obtain rfl := HQ.out rfl
                have hjm1 := HOK.out.1 rfl
                have d5 : ((j : Int) + 1 == (m : Int)) = true := by rw [beq_iff_eq]; omega
                unfold baseP
                dsimp only
                go_upto_region 18 with fail
                have HN7 := Lib.hid (alloc_new w5 (.cells #[.int .i64 1, .int .i64 2, .int .i64 6, .int .i64 9, .int .i64 77, .bool false, .bool false, .int .i64 0, .string b] 30))
                have HL7 := Lib.hid (HL5.out.below ((Below.refl _ _).alloc (Nat.le_refl _) (.cells #[.int .i64 1, .int .i64 2, .int .i64 6, .int .i64 9, .int .i64 77, .bool false, .bool false, .int .i64 0, .string b] 30)))
                generalize w5.alloc (.cells #[.int .i64 1, .int .i64 2, .int .i64 6, .int .i64 9, .int .i64 77, .bool false, .bool false, .int .i64 0, .string b] 30) = w7 at *
                have qN70 := (cell_of_block (k := 0) HN7.out rfl).1; have zN70 := (cell_of_block (k := 0) HN7.out rfl).2; have qN71 := (cell_of_block (k := 1) HN7.out rfl).1; have zN71 := (cell_of_block (k := 1) HN7.out rfl).2; have qN72 := (cell_of_block (k := 2) HN7.out rfl).1; have zN72 := (cell_of_block (k := 2) HN7.out rfl).2; have qN73 := (cell_of_block (k := 3) HN7.out rfl).1; have zN73 := (cell_of_block (k := 3) HN7.out rfl).2; have qN74 := (cell_of_block (k := 4) HN7.out rfl).1; have zN74 := (cell_of_block (k := 4) HN7.out rfl).2; have qN75 := (cell_of_block (k := 5) HN7.out rfl).1; have zN75 := (cell_of_block (k := 5) HN7.out rfl).2; have qN76 := (cell_of_block (k := 6) HN7.out rfl).1; have zN76 := (cell_of_block (k := 6) HN7.out rfl).2; have qN77 := (cell_of_block (k := 7) HN7.out rfl).1; have zN77 := (cell_of_block (k := 7) HN7.out rfl).2; have qN78 := (cell_of_block (k := 8) HN7.out rfl).1; have zN78 := (cell_of_block (k := 8) HN7.out rfl).2; have lt_N7 := blk_lt HN7.out
                clear hjm1
                go_wp2_with fail
                go_roundw
                case rel => exact ⟨j + 1, A3, by omega, by go_num, HL7.out⟩
                case measure => simp [Go.RowKit.intOf]; omega
              | false =>
                have hjm1 : ¬ j + 1 = m := fun q => by have := HOK.out.2 q; cases this
                have d5 : ((j : Int) + 1 == (m : Int)) = false := by rw [beq_eq_false_iff_ne]; omega
                obtain ⟨w7, hw7⟩ : ∃ w7 : World, w5.alloc (.cells #[.int .i64 q.f, .int .i64 q.t, .int .i64 q.pr, .int .i64 q.ttl, .int .i64 q.id, .bool q.df, .bool q.mf, .int .i64 q.off, .string q.s] 30) = w7 := ⟨_, rfl⟩
                have HL7 := Lib.hid (HL5.out.below ((Below.refl _ _).alloc (Nat.le_refl _) (.cells #[.int .i64 q.f, .int .i64 q.t, .int .i64 q.pr, .int .i64 q.ttl, .int .i64 q.id, .bool q.df, .bool q.mf, .int .i64 q.off, .string q.s] 30)))
                rw [hw7] at HL7
                clear hjm1
                go_wp2_with fail
                go_roundw
                case rel => exact ⟨j + 1, A3, by omega, by go_num, HL7.out⟩
                case measure => simp [Go.RowKit.intOf]; omega
            · have d2 : decide ((k : Int) < (no : Int)) = false := decide_eq_false (by omega)
              clear hlt d3
              go_wp2_with fail
              refine HPUT.out.mono ?_
              rintro y w5 ⟨rfl, hL5⟩
              have HL5 := Lib.hid hL5; clear hL5 HPUT p0 p1 p2 p3 p4 p5 p6 p7 p8
              unfold PutRes PkV
              cases ok with
              | true =>
                obtain rfl := HQ.out rfl
                have hjm1 := HOK.out.1 rfl
                have d5 : ((j : Int) + 1 == (m : Int)) = true := by rw [beq_iff_eq]; omega
                unfold baseP
                dsimp only
                go_upto_region 18 with fail
                have HN7 := Lib.hid (alloc_new w5 (.cells #[.int .i64 1, .int .i64 2, .int .i64 6, .int .i64 9, .int .i64 77, .bool false, .bool false, .int .i64 0, .string b] 30))
                have HL7 := Lib.hid (HL5.out.below ((Below.refl _ _).alloc (Nat.le_refl _) (.cells #[.int .i64 1, .int .i64 2, .int .i64 6, .int .i64 9, .int .i64 77, .bool false, .bool false, .int .i64 0, .string b] 30)))
                generalize w5.alloc (.cells #[.int .i64 1, .int .i64 2, .int .i64 6, .int .i64 9, .int .i64 77, .bool false, .bool false, .int .i64 0, .string b] 30) = w7 at *
                have qN70 := (cell_of_block (k := 0) HN7.out rfl).1; have zN70 := (cell_of_block (k := 0) HN7.out rfl).2; have qN71 := (cell_of_block (k := 1) HN7.out rfl).1; have zN71 := (cell_of_block (k := 1) HN7.out rfl).2; have qN72 := (cell_of_block (k := 2) HN7.out rfl).1; have zN72 := (cell_of_block (k := 2) HN7.out rfl).2; have qN73 := (cell_of_block (k := 3) HN7.out rfl).1; have zN73 := (cell_of_block (k := 3) HN7.out rfl).2; have qN74 := (cell_of_block (k := 4) HN7.out rfl).1; have zN74 := (cell_of_block (k := 4) HN7.out rfl).2; have qN75 := (cell_of_block (k := 5) HN7.out rfl).1; have zN75 := (cell_of_block (k := 5) HN7.out rfl).2; have qN76 := (cell_of_block (k := 6) HN7.out rfl).1; have zN76 := (cell_of_block (k := 6) HN7.out rfl).2; have qN77 := (cell_of_block (k := 7) HN7.out rfl).1; have zN77 := (cell_of_block (k := 7) HN7.out rfl).2; have qN78 := (cell_of_block (k := 8) HN7.out rfl).1; have zN78 := (cell_of_block (k := 8) HN7.out rfl).2; have lt_N7 := blk_lt HN7.out
                clear hjm1
                go_wp2_with fail
                go_roundw
                case rel => exact ⟨j + 1, A3, by omega, by go_num, HL7.out⟩
                case measure => simp [Go.RowKit.intOf]; omega
              | false =>
                have hjm1 : ¬ j + 1 = m := fun q => by have := HOK.out.2 q; cases this
                have d5 : ((j : Int) + 1 == (m : Int)) = false := by rw [beq_eq_false_iff_ne]; omega
                obtain ⟨w7, hw7⟩ : ∃ w7 : World, w5.alloc (.cells #[.int .i64 q.f, .int .i64 q.t, .int .i64 q.pr, .int .i64 q.ttl, .int .i64 q.id, .bool q.df, .bool q.mf, .int .i64 q.off, .string q.s] 30) = w7 := ⟨_, rfl⟩
                have HL7 := Lib.hid (HL5.out.below ((Below.refl _ _).alloc (Nat.le_refl _) (.cells #[.int .i64 q.f, .int .i64 q.t, .int .i64 q.pr, .int .i64 q.ttl, .int .i64 q.id, .bool q.df, .bool q.mf, .int .i64 q.off, .string q.s] 30)))
                rw [hw7] at HL7
                clear hjm1
                go_wp2_with fail
                go_roundw
                case rel => exact ⟨j + 1, A3, by omega, by go_num, HL7.out⟩
                case measure => simp [Go.RowKit.intOf]; omega
      · have d1 : decide ((j : Int) < (m : Int)) = false := decide_eq_false (by omega)
        have HBL := Lib.hid HL.out.one.bel
        go_wp2_with fail
        go_ret
        exact ⟨rfl, HBL.out⟩
theorem ind_law' (s : ByteArray) (e : Int) (A : Option Addr) (no c : Nat) (ol : List Prw) (w : World) (hs : s.size ≤ 9223372036854775807) (he : 0 ≤ e ∧ e ≤ 255) (hA : ArgP w A no ol) :
    Calls Try.prog 5 #[.string s, .int .u8 e, .slice A no c] w fun x w' => x = .returned (.bool true) ∧ Below w.heap.size w w' := by
  obtain ⟨n, rfl⟩ := Int.eq_ofNat_of_zero_le he.1
  exact ind_law s n A no c ol w hs (by omega) hA
end Go.Proofs.Ytmeldgnjgogacaa.Re
