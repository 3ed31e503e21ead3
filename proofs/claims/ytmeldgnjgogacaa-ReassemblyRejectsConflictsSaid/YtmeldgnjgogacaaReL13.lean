/-
  The walk of the law ReassemblyRejectsConflicts.
-/
import Derived.Test.YtmeldgnjgogacaaReConf
import Derived.Deep.RegionWith
import Derived.Deep.DeepCutAuto
import Derived.Laws.BytesArg
namespace Go.Proofs.Ytmeldgnjgogacaa.Re
set_option maxRecDepth 100000
open Go.RowKit Go.Proofs.Ytmeldgnjgogacaa.Wire
open Go.Proofs.Ytmeldgnjgogacaa.Ip (Pk vlenB VLen)

/-- the table, the parts -/
structure L13 (w : World) (b : ByteArray) (lo T g pc : Nat) (A : List (Ky × Hf)) (K : Nat → Prop) (W : World) : Prop where
  one : OneT w T A (fun q => q = g ∨ K q) W
  row : PRow W lo (some ⟨g, 0, none⟩) pc (partsL b 8)
section
variable {w W W' : World} {b : ByteArray} {lo T g pc : Nat} {A A' : List (Ky × Hf)} {K : Nat → Prop}
theorem L13.below (h : L13 w b lo T g pc A K W) (hb : Below W.heap.size W W') : L13 w b lo T g pc A K W' := ⟨h.one.below hb, h.row.keptK (fun q _ hl => hb.block q hl)⟩
theorem L13.put (h : L13 w b lo T g pc A K W) (now : Int) (p q : Pk) (ok : Bool) (err : Int) (he : putA A now p = (A', q, ok, err)) (hs : p.s.size ≤ 500) (hl : A.length ≤ 1) (hnow : In64 now) :
    Calls Try.prog 16 #[.pointer (some ⟨T, 0, none⟩), .int .i64 now, .agg #[.int .i64 p.f, .int .i64 p.t, .int .i64 p.pr, .int .i64 p.ttl, .int .i64 p.id, .bool p.df, .bool p.mf, .int .i64 p.off, .string p.s]] W fun x w' => x = PutRes q ok err ∧ L13 w b lo T g pc A' (fun _ => False) w' := by
  have hg : g < W.heap.size := h.row.lt
  refine (h.one.put now p A' q ok err he (by omega) (.inl (by omega)) (by omega) hnow).mono ?_
  rintro x w' ⟨hx, ho, -, hk⟩
  exact ⟨hx, ho.more (fun q hq => .inl (by rcases hq with r | r; (exact ⟨.inl r, by rw [r]; exact hg⟩); exact r.elim)), h.row.kept (fun a e => by cases e; exact hk _ (.inl rfl) hg)⟩
theorem L13.putS (h : L13 w b lo T g pc A K W) (now : Int) (p q : Pk) (ok : Bool) (err : Int) (he : putA A now p = (A', q, ok, err)) (hs : p.s.size ≤ 500) (hl : A.length ≤ 1) (hnow : In64 now) :
    Calls Try.prog 24 #[.pointer (some ⟨T, 0, none⟩), .int .i64 now, .agg #[.int .i64 p.f, .int .i64 p.t, .int .i64 p.pr, .int .i64 p.ttl, .int .i64 p.id, .bool p.df, .bool p.mf, .int .i64 p.off, .string p.s]] W fun x w' => x = .returned (.string (putS (A', q, ok, err))) ∧ L13 w b lo T g pc A' (fun _ => False) w' := by
  have hg : g < W.heap.size := h.row.lt
  obtain ⟨S, h1, h2⟩ := h.one.ex
  refine (put_law T A S now p W h1 (by omega) (.inl (by omega)) (by omega) hnow).mono ?_
  rw [he]
  rintro x w' ⟨hx, S', t', hc, hn⟩
  have hz := h.one.bel.size
  refine ⟨hx, ⟨⟨S', t', fun q hq => ?_⟩, ?_⟩, h.row.kept (fun a e => by cases e; exact hc.block _ hg (fun r => (h2 _ r).2 (.inl rfl)))⟩
  · rcases hn q hq with r | r
    · exact ⟨(h2 q r).1, fun s => by rcases s with s | s; (exact (h2 q r).2 (.inl s)); exact s⟩
    · exact ⟨by omega, fun s => by rcases s with s | s; (subst s; omega); exact s⟩
  · exact ⟨hc.os.trans h.one.bel.os, hc.tape.trans h.one.bel.tape, hc.output.trans h.one.bel.output, Nat.le_trans hz hc.size, fun k hk => (hc.block k (by omega) (fun r => by have := (h2 k r).1; omega)).trans (h.one.bel.block k hk)⟩
theorem L13.tick (h : L13 w b lo T g pc A K W) (now : Int) (l2 : List Pk) (n : Nat) (hl : toldA now A = l2) (hn : l2.length = n) (hk : keepA now A = A') (hL : A.length ≤ 1) (hnow : In64 now) :
    Calls Try.prog 19 #[.pointer (some ⟨T, 0, none⟩), .int .i64 now] W fun x w' => (∃ B2 c2, x = .returned (.slice B2 n c2)) ∧ L13 w b lo T g pc A' (fun _ => False) w' := by
  have hg : g < W.heap.size := h.row.lt
  refine (h.one.tick now l2 n hl hn A' hk (by omega) hnow).mono ?_
  rintro x w' ⟨⟨B2, c2, hx, -⟩, ho, -, hk⟩
  exact ⟨⟨B2, c2, hx⟩, ho.more (fun q hq => .inl (by rcases hq with r | r; (exact .inl (.inl r)); exact r.elim)), h.row.kept (fun a e => by cases e; exact hk _ (.inl rfl) hg)⟩
end
theorem bad_str (P : Pk) (h : 0 < P.s.size) : (⟨#[UInt8.ofNat ((((P.s[0]).toNat : Int) + 1) % 256).toNat]⟩ : ByteArray) ++ P.s.extract 1 P.s.size = (badP P).s := by
  have e1 : P.s.data.toList.getD 0 0 = P.s[0] := getD_lt P.s 0 h
  have e2 : UInt8.ofNat ((((P.s[0]).toNat : Int) + 1) % 256).toNat = P.s[0] + 1 := by
    apply UInt8.toNat_inj.1
    rw [UInt8.toNat_ofNat', UInt8.toNat_add]
    have := (P.s[0]).toNat_lt
    show _ = ((P.s[0]).toNat + 1) % 256
    omega
  unfold badP
  rw [e1, e2]
  apply ByteArray.ext
  rw [ByteArray.data_append, ByteArray.data_extract]
  apply Array.ext'
  simp
  have : P.s.size = P.s.data.toList.length := rfl
  rw [this, List.take_of_length_le (by rw [List.length_tail]; exact Nat.le_refl _)]
theorem told_rej (now : Int) (k : Ky) (H : Hf) : toldA now [(k, rejF H)] = [] := by
  unfold toldA
  simp [rejF]
theorem keep_rej (now : Int) (k : Ky) (H : Hf) (h : now - H.start < 30) : keepA now [(k, rejF H)] = [(k, rejF H)] := by
  unfold keepA oldB
  rw [List.filter_cons_of_pos]
  · rfl
  · rw [Bool.not_eq_true', decide_eq_false_iff_not]
    show ¬ (H.start ≤ now ∧ 30 ≤ now - H.start)
    omega
theorem drop_rej (now : Int) (k : Ky) (H : Hf) (h : H.start ≤ now ∧ 30 ≤ now - H.start) : keepA now [(k, rejF H)] = [] := by
  unfold keepA oldB
  rw [List.filter_cons_of_neg]
  · rfl
  · rw [Bool.not_eq_true, Bool.not_eq_false', decide_eq_true_eq]
    exact h
theorem frags_at (p : Pk) (n m i : Nat) (h : i < m) : (Ip.frags p n m)[i]? = some (Ip.pieceAt p n i) := by simp [Ip.frags, h]
def badC (b : ByteArray) (m : Nat) (Q : Pk) : Prop := vldB Q = true ∧ keyOf Q = keyOf (baseP b) ∧ (Q.mf = true ∨ Q.off ≠ 0) ∧ Q.s.size ≤ 500 ∧ ∀ H, Good (baseP b) 8 (fun i => decide (i < m - 1)) H → conflB H Q = true
theorem conv_one7 (W : World) (b : Nat) (m : Int) (h : W.cell? ⟨b, 0, none⟩ = some (.int .u8 m)) : (convert 41 9 (.slice (some ⟨b, 0, none⟩) 1 1)).run Try.prog W = .ok (.string ⟨#[UInt8.ofNat m.toNat]⟩) W := by
  have hc : ∀ i, i < 1 → W.cell? ⟨b, 0 + i, none⟩ = some (.int .u8 (([m] : List Int).getD i 0)) := fun i hi => by
    obtain rfl : i = 0 := by omega
    simpa using h
  have := run_convert_bytes_arg (P := Try.prog) W 41 5 Try.underlying41 Try.underlying5 b 0 1 1 [m] rfl hc 9 Try.underlying9
  simpa [strOfNums] using this
set_option maxHeartbeats 16000000 in
theorem confl_law (s : ByteArray) (x : Nat) (be : Bool) (w : World) (hs : s.size ≤ 9223372036854775807) (hx : x < 256) :
    Calls Try.prog 6 #[.string s, .int .u8 (x : Int), .bool be] w fun y w' => y = .returned (.bool true) ∧ Below w.heap.size w w' := by
  go_enter Try.func6, Try.ntmps6
  go_wp2_with fail
  refine (examples_any _).mono ?_
  rintro y w1 ⟨rfl, hb1⟩
  have HB1 := Lib.hid hb1; clear hb1
  go_upto_region 4 with fail
  go_cut [8] (fun s8 wx => ∃ b : ByteArray, s8 = .string b ∧ b.size ≤ 500 ∧ wx = w1)
  case first =>
    go_wp2_with fail
    all_goals
      go_meet
      first | exact ⟨_, rfl, by rw [ByteArray.size_extract]; omega, rfl⟩ | exact ⟨_, rfl, by omega, rfl⟩
  case rest =>
    obtain ⟨b0, rfl, hb5, rfl⟩ := hcut
    obtain ⟨w1, rfl⟩ : ∃ wo : World, wo = wc := ⟨_, rfl⟩
    go_upto_if 42 with fail
    go_cut [8] (fun s8 wx => ∃ b : ByteArray, s8 = .string b ∧ b.size ≤ 500 ∧ 17 ≤ b.size ∧ wx = w1)
    case first =>
      go_wp2_with fail
      all_goals
        go_meet
        first | exact ⟨_, rfl, by decide, by decide, rfl⟩ | exact ⟨_, rfl, by omega, by omega, rfl⟩
    case rest =>
      obtain ⟨b, rfl, hb5, hb17, rfl⟩ := hcut
      obtain ⟨w1, rfl⟩ : ∃ wo : World, wo = wc := ⟨_, rfl⟩
      have hPA := parts_any b 0 w1 hb5 (by omega)
      have hcut0 : CutP (baseP b) 8 := base_cut hb5 (by omega) (by omega)
      have e8 : cutN 0 = 8 := rfl
      rw [e8] at hPA
      have HPA := Lib.hid hPA; clear hPA e8
      have HPL : Hid (partsL b 8 = Ip.frags (baseP b) 8 (Ip.count (baseP b) 8)) := Lib.hid (by unfold partsL; rw [if_neg (by omega)])
      obtain ⟨m, hm⟩ : ∃ m, Ip.count (baseP b) 8 = m := ⟨_, rfl⟩
      have hm3 : 3 ≤ m := by
        have := (Ip.count_lt (baseP b) 8 2 (by omega)).2 (by show 8 * 2 < b.size; omega)
        omega
      have hm9 : m ≤ 500 := by
        have := Ip.count_le (baseP b) 8 (by omega)
        have h2 : (baseP b).s.size = b.size := rfl
        omega
      have HM : Hid ((partsL b 8).length = m) := Lib.hid (by rw [HPL.out, Ip.frags_length, hm])
      have HMC := Lib.hid hm; clear hm
      rw [HM.out] at HPA
      have HCUT := Lib.hid hcut0; clear hcut0
      go_wp2_with fail
      refine HPA.out.mono ?_
      rintro y w2 ⟨⟨B, pc, rfl, hrow⟩, hb2⟩
      have HROW := Lib.hid hrow; have HB2 := Lib.hid (below_call HB1.out hb2)
      clear hrow hb2 HPA
      go_wp2_with fail
      refine (new_tt _).mono ?_
      intro y w3 hy
      obtain ⟨T, rfl, ho, hb3⟩ := OneT.ofNew HB2.out hy
      obtain ⟨g, hBg, hglo⟩ := HROW.out.addr (by rw [HM.out]; omega)
      subst hBg
      have hglt := HROW.out.lt
      have HL0 : Hid (L13 w b w1.heap.size T g pc [] (fun _ => False) w3) := Lib.hid ⟨ho.more (fun q hq => .inl (by rcases hq with r | r; (subst r; exact hglt); exact r.elim)), HROW.out.keptK (fun q _ hl => hb3.block q hl)⟩
      clear hy ho hb3 HROW HB2 hglo hglt
      go_wp2_with fail
      go_loopw [11] (fun i wr => ∃ (j : Nat) (A1 : List (Ky × Hf)), j + 1 ≤ m ∧ i = .int .i64 (j : Int) ∧ StI b 8 j 5 A1 ∧ L13 w b w1.heap.size T g pc A1 (fun _ => False) wr) (fun i _ => m - (Go.RowKit.intOf i).toNat)
      case atStart => exact ⟨0, [], by omega, rfl, sti_start b 8 5, HL0.out⟩
      case round =>
        clear HL0
        obtain ⟨j, A1, hj, rfl, hst, hL⟩ := hrel
        have HL := Lib.hid hL; have HST := Lib.hid hst; clear hL hst
        have j0 : (0 : Int) ≤ (j : Int) := by omega
        by_cases hjm : j + 1 < m
        · have d1 : decide ((j : Int) + 1 < (m : Int)) = true := decide_eq_true (by omega)
          have j1 : (j : Int) < (m : Int) := by omega
          obtain ⟨A2, q, ok, hput, hst2, hok, -⟩ := sti_put hb5 (by omega) HCUT.out HST.out (by rw [HMC.out]; omega)
          rw [HMC.out] at hok
          have hok2 : ok = false := by
            cases ok with
            | false => rfl
            | true => have := hok.1 rfl; omega
          subst hok2
          have hP : (partsL b 8)[j]? = some (Ip.pieceAt (baseP b) 8 j) := by rw [HPL.out, HMC.out]; exact frags_at _ _ _ _ (by omega)
          have hps := stA_valid hb5 hP
          obtain ⟨P, hPe⟩ : ∃ P, Ip.pieceAt (baseP b) 8 j = P := ⟨_, rfl⟩
          rw [hPe] at hput hP hps
          have HPUT := Lib.hid (HL.out.put 5 P q false 0 hput hps (sti_length HST.out (by rw [HMC.out]; omega)) (by unfold In64; omega))
          obtain ⟨p0, p1, p2, p3, p4, p5, p6, p7, p8⟩ := HL.out.row.cells hP
          have HST2 := Lib.hid hst2; clear hst2 hput hP hps hPe hok
          go_wp2_with fail
          refine HPUT.out.mono ?_
          rintro y w5 ⟨rfl, hL5⟩
          obtain ⟨w7, hw7⟩ : ∃ w7 : World, w5.alloc (.cells #[.int .i64 q.f, .int .i64 q.t, .int .i64 q.pr, .int .i64 q.ttl, .int .i64 q.id, .bool q.df, .bool q.mf, .int .i64 q.off, .string q.s] 30) = w7 := ⟨_, rfl⟩
          have HL7 := Lib.hid (hL5.below ((Below.refl _ _).alloc (Nat.le_refl _) (.cells #[.int .i64 q.f, .int .i64 q.t, .int .i64 q.pr, .int .i64 q.ttl, .int .i64 q.id, .bool q.df, .bool q.mf, .int .i64 q.off, .string q.s] 30)))
          rw [hw7] at HL7
          clear hL5 HPUT p0 p1 p2 p3 p4 p5 p6 p7 p8
          unfold PutRes PkV
          go_wp2_with fail
          exact ⟨⟨j + 1, A2, by omega, by go_num, HST2.out, HL7.out⟩, by simp [Go.RowKit.intOf]; omega⟩
        · obtain rfl : j = m - 1 := by omega
          obtain ⟨H, rfl, hHst, hHg⟩ := HST.out.2 (by omega) (by rw [HMC.out]; omega)
          have d1 : decide ((((m - 1 : Nat)) : Int) + 1 < (m : Int)) = false := decide_eq_false (by omega)
          have HHS := Lib.hid hHst; have HHG := Lib.hid hHg
          clear hHst hHg HST hjm
          obtain ⟨k, hkx⟩ : ∃ k, x % (m - 1) = k := ⟨_, rfl⟩
          have hkm : k < m - 1 := by rw [← hkx]; exact Nat.mod_lt _ (by omega)
          have hke : (x : Int) % ((m : Int) - 1) = (k : Int) := by rw [← hkx, show (m : Int) - 1 = ((m - 1 : Nat) : Int) by omega]; simp
          have hk0 : (0 : Int) ≤ (k : Int) := by omega
          have hk1 : (k : Int) < (m : Int) := by omega
          clear hkx
          have hP : (partsL b 8)[k]? = some (Ip.pieceAt (baseP b) 8 k) := by rw [HPL.out, HMC.out]; exact frags_at _ _ _ _ (by omega)
          have hps0 := piece_sz (p := baseP b) (n := 8) k
          have hlt0 := (Ip.count_lt (baseP b) 8 k (by omega)).1 (by rw [HMC.out]; omega)
          have hpv := piece_valid (base_valid b hb5) rfl 8 k (by omega) (by omega) hlt0
          have hpc := fun H hg => bad_confl (C := fun i => decide (i < m - 1)) (H := H) HCUT.out hg (k := k) (by rw [HMC.out]; omega) (decide_eq_true hkm)
          have hpm := piece_mf HCUT.out (k := k) (by rw [HMC.out]; omega)
          rw [HMC.out, decide_eq_true (show k ≠ m - 1 by omega)] at hpm
          have hpk : keyOf (Ip.pieceAt (baseP b) 8 k) = keyOf (baseP b) := rfl
          have hp5 := stA_valid hb5 hP
          obtain ⟨P, hPe⟩ : ∃ P, Ip.pieceAt (baseP b) 8 k = P := ⟨_, rfl⟩
          rw [hPe] at hps0 hpv hpc hpm hpk hP hp5
          have hsz0 : 0 < P.s.size := by rw [hps0]; omega
          have HBC : Hid (badC b m (badP P)) := Lib.hid ⟨badP_valid hpv hsz0, hpk, .inl hpm, by rw [badP_size hsz0]; exact hp5, hpc⟩
          clear hps0 hlt0 hpv hpc hpm hpk hPe
          obtain ⟨p0, p1, p2, p3, p4, p5, p6, p7, p8⟩ := HL.out.row.cells hP
          have HN := Lib.hid (alloc_new wr (.cells #[.int .i64 P.f, .int .i64 P.t, .int .i64 P.pr, .int .i64 P.ttl, .int .i64 P.id, .bool P.df, .bool P.mf, .int .i64 P.off, .string P.s] 30))
          have HLB : Hid (L13 w b w1.heap.size T g pc [(keyOf (baseP b), H)] (fun q => q = wr.heap.size) (wr.alloc (.cells #[.int .i64 P.f, .int .i64 P.t, .int .i64 P.pr, .int .i64 P.ttl, .int .i64 P.id, .bool P.df, .bool P.mf, .int .i64 P.off, .string P.s] 30))) := Lib.hid (L13.below ⟨HL.out.one.more (fun q hq => by rcases hq with r | r; (exact .inl (.inl r)); exact .inr (by omega)), HL.out.row⟩ ((Below.refl _ _).alloc (Nat.le_refl _) _))
          have hzr := HL.out.one.bel.size
          have hgr : g < wr.heap.size := HL.out.row.lt
          go_upto_region 18 with fail
          clear p0 p1 p2 p3 p4 p5 p6 p7 p8
          obtain ⟨Bd, hBd⟩ : ∃ Bd, wr.heap.size = Bd := ⟨_, rfl⟩
          rw [hBd] at HN HLB hzr hgr ⊢
          clear hBd HL
          generalize wr.alloc (.cells #[.int .i64 P.f, .int .i64 P.t, .int .i64 P.pr, .int .i64 P.ttl, .int .i64 P.id, .bool P.df, .bool P.mf, .int .i64 P.off, .string P.s] 30) = w4 at *
          go_cut [] (fun wx => wx.heap[Bd]? = some (.cells #[.int .i64 (badP P).f, .int .i64 (badP P).t, .int .i64 (badP P).pr, .int .i64 (badP P).ttl, .int .i64 (badP P).id, .bool (badP P).df, .bool (badP P).mf, .int .i64 (badP P).off, .string (badP P).s] 30 (0, 0)) ∧ L13 w b w1.heap.size T g pc [(keyOf (baseP b), H)] (fun q => q = Bd) wx)
          case first =>
            have hcv := conv_one7
            have qn8 := (cell_of_block (k := 8) HN.out rfl).1
            have zn8 := (cell_of_block (k := 8) HN.out rfl).2
            have hBl := blk_lt HN.out
            have hs1 : (0 : Int) < (P.s.size : Int) := by omega
            have hs2 : (1 : Int) ≤ (P.s.size : Int) := by omega
            have hs3 : ¬ 9223372036854775807 < 1 + (P.s.size - 1) := by omega
            have HSTR := Lib.hid (bad_str P hsz0)
            have HSTR2 : Hid ((⟨#[UInt8.ofNat (IntKind.u8.wrap (((P.s[0]).toNat : Int) + 1)).toNat]⟩ : ByteArray) ++ P.s.extract 1 P.s.size = (badP P).s) := Lib.hid (by rw [IntKind.wrap_u8]; exact HSTR.out)
            go_region_with (fail)
            all_goals
              go_wp2_with fail
              go_meet
              first | rw [HSTR.out] | rw [HSTR2.out]
              exact ⟨block_alloc (cells_eq (block_setCell (k := 8) (v := .string (badP P).s) HN.out) rfl) _, L13.below ⟨HLB.out.one.setCell ⟨.inr rfl, hzr⟩ _, HLB.out.row.kept (fun a e => by cases e; exact Below.heap_setCell _ _ _ _ (by show g ≠ Bd; omega))⟩ ((Below.refl _ _).alloc (Nat.le_refl _) _).drew⟩
          case rest =>
            obtain ⟨hn5, hl5⟩ := hcut
            obtain ⟨w5, rfl⟩ : ∃ wo : World, wo = wc := ⟨_, rfl⟩
            have HN5 := Lib.hid hn5; have HL5 := Lib.hid hl5; clear hn5 hl5 HN HLB hP
            go_upto_if 91 with fail
            go_cut [] (fun wx => ∃ Q : Pk, badC b m Q ∧ wx.heap[Bd]? = some (.cells #[.int .i64 Q.f, .int .i64 Q.t, .int .i64 Q.pr, .int .i64 Q.ttl, .int .i64 Q.id, .bool Q.df, .bool Q.mf, .int .i64 Q.off, .string Q.s] 30 (0, 0)) ∧ L13 w b w1.heap.size T g pc [(keyOf (baseP b), H)] (fun q => q = Bd) wx)
            case first =>
              cases be with
              | false =>
                go_wp2_with fail
                go_meet
                exact ⟨_, HBC.out, HN5.out, HL5.out⟩
              | true =>
                have hP0 : (partsL b 8)[0]? = some (Ip.pieceAt (baseP b) 8 0) := by rw [HPL.out, HMC.out]; exact frags_at _ _ _ _ (by omega)
                have hP1 : (partsL b 8)[1]? = some (Ip.pieceAt (baseP b) 8 1) := by rw [HPL.out, HMC.out]; exact frags_at _ _ _ _ (by omega)
                obtain ⟨p0, p1, p2, p3, p4, p5, p6, p7, p8⟩ := HL5.out.row.cells hP0
                have qN50 := (cell_of_block (k := 0) HN5.out rfl).1; have zN50 := (cell_of_block (k := 0) HN5.out rfl).2; have qN51 := (cell_of_block (k := 1) HN5.out rfl).1; have zN51 := (cell_of_block (k := 1) HN5.out rfl).2; have qN52 := (cell_of_block (k := 2) HN5.out rfl).1; have zN52 := (cell_of_block (k := 2) HN5.out rfl).2; have qN53 := (cell_of_block (k := 3) HN5.out rfl).1; have zN53 := (cell_of_block (k := 3) HN5.out rfl).2; have qN54 := (cell_of_block (k := 4) HN5.out rfl).1; have zN54 := (cell_of_block (k := 4) HN5.out rfl).2; have qN55 := (cell_of_block (k := 5) HN5.out rfl).1; have zN55 := (cell_of_block (k := 5) HN5.out rfl).2; have qN56 := (cell_of_block (k := 6) HN5.out rfl).1; have zN56 := (cell_of_block (k := 6) HN5.out rfl).2; have qN57 := (cell_of_block (k := 7) HN5.out rfl).1; have zN57 := (cell_of_block (k := 7) HN5.out rfl).2; have qN58 := (cell_of_block (k := 8) HN5.out rfl).1; have zN58 := (cell_of_block (k := 8) HN5.out rfl).2; have lt_N5 := blk_lt HN5.out
                go_upto_region 23 with fail
                have hB6 := block_setCell (k := 7) (v := .int .i64 8) (block_setCell (k := 6) (v := .bool false) (stN_all [.int .i64 (Ip.pieceAt (baseP b) 8 0).f, .int .i64 (Ip.pieceAt (baseP b) 8 0).t, .int .i64 (Ip.pieceAt (baseP b) 8 0).pr, .int .i64 (Ip.pieceAt (baseP b) 8 0).ttl, .int .i64 (Ip.pieceAt (baseP b) 8 0).id, .bool (Ip.pieceAt (baseP b) 8 0).df, .bool (Ip.pieceAt (baseP b) 8 0).mf, .int .i64 (Ip.pieceAt (baseP b) 8 0).off, .string (Ip.pieceAt (baseP b) 8 0).s] HN5.out rfl))
                have HN6 : Hid ((World.setCell (World.setCell (World.setCell (World.setCell (World.setCell (World.setCell (World.setCell (World.setCell (World.setCell (World.setCell (World.setCell w5 ⟨Bd, 0, none⟩ (.int .i64 (Ip.pieceAt (baseP b) 8 0).f)) ⟨Bd, 1, none⟩ (.int .i64 (Ip.pieceAt (baseP b) 8 0).t)) ⟨Bd, 2, none⟩ (.int .i64 (Ip.pieceAt (baseP b) 8 0).pr)) ⟨Bd, 3, none⟩ (.int .i64 (Ip.pieceAt (baseP b) 8 0).ttl)) ⟨Bd, 4, none⟩ (.int .i64 (Ip.pieceAt (baseP b) 8 0).id)) ⟨Bd, 5, none⟩ (.bool (Ip.pieceAt (baseP b) 8 0).df)) ⟨Bd, 6, none⟩ (.bool (Ip.pieceAt (baseP b) 8 0).mf)) ⟨Bd, 7, none⟩ (.int .i64 (Ip.pieceAt (baseP b) 8 0).off)) ⟨Bd, 8, none⟩ (.string (Ip.pieceAt (baseP b) 8 0).s)) ⟨Bd, 6, none⟩ (.bool false)) ⟨Bd, 7, none⟩ (.int .i64 8)).heap[Bd]? = some (.cells #[.int .i64 1, .int .i64 2, .int .i64 6, .int .i64 9, .int .i64 77, .bool false, .bool false, .int .i64 8, .string (Ip.pieceAt (baseP b) 8 0).s] 30 (0, 0))) := Lib.hid (cells_eq hB6 rfl)
                have hoth : ∀ q, q ≠ Bd → (World.setCell (World.setCell (World.setCell (World.setCell (World.setCell (World.setCell (World.setCell (World.setCell (World.setCell (World.setCell (World.setCell w5 ⟨Bd, 0, none⟩ (.int .i64 (Ip.pieceAt (baseP b) 8 0).f)) ⟨Bd, 1, none⟩ (.int .i64 (Ip.pieceAt (baseP b) 8 0).t)) ⟨Bd, 2, none⟩ (.int .i64 (Ip.pieceAt (baseP b) 8 0).pr)) ⟨Bd, 3, none⟩ (.int .i64 (Ip.pieceAt (baseP b) 8 0).ttl)) ⟨Bd, 4, none⟩ (.int .i64 (Ip.pieceAt (baseP b) 8 0).id)) ⟨Bd, 5, none⟩ (.bool (Ip.pieceAt (baseP b) 8 0).df)) ⟨Bd, 6, none⟩ (.bool (Ip.pieceAt (baseP b) 8 0).mf)) ⟨Bd, 7, none⟩ (.int .i64 (Ip.pieceAt (baseP b) 8 0).off)) ⟨Bd, 8, none⟩ (.string (Ip.pieceAt (baseP b) 8 0).s)) ⟨Bd, 6, none⟩ (.bool false)) ⟨Bd, 7, none⟩ (.int .i64 8)).heap[q]? = w5.heap[q]? := fun q hq => by
                  repeat rw [Below.heap_setCell _ _ _ _ (by exact hq)]
                have hg6 : w5.grownBy (World.setCell (World.setCell (World.setCell (World.setCell (World.setCell (World.setCell (World.setCell (World.setCell (World.setCell (World.setCell (World.setCell w5 ⟨Bd, 0, none⟩ (.int .i64 (Ip.pieceAt (baseP b) 8 0).f)) ⟨Bd, 1, none⟩ (.int .i64 (Ip.pieceAt (baseP b) 8 0).t)) ⟨Bd, 2, none⟩ (.int .i64 (Ip.pieceAt (baseP b) 8 0).pr)) ⟨Bd, 3, none⟩ (.int .i64 (Ip.pieceAt (baseP b) 8 0).ttl)) ⟨Bd, 4, none⟩ (.int .i64 (Ip.pieceAt (baseP b) 8 0).id)) ⟨Bd, 5, none⟩ (.bool (Ip.pieceAt (baseP b) 8 0).df)) ⟨Bd, 6, none⟩ (.bool (Ip.pieceAt (baseP b) 8 0).mf)) ⟨Bd, 7, none⟩ (.int .i64 (Ip.pieceAt (baseP b) 8 0).off)) ⟨Bd, 8, none⟩ (.string (Ip.pieceAt (baseP b) 8 0).s)) ⟨Bd, 6, none⟩ (.bool false)) ⟨Bd, 7, none⟩ (.int .i64 8)) (some Bd) := only_set (only_set (stN_only [.int .i64 (Ip.pieceAt (baseP b) 8 0).f, .int .i64 (Ip.pieceAt (baseP b) 8 0).t, .int .i64 (Ip.pieceAt (baseP b) 8 0).pr, .int .i64 (Ip.pieceAt (baseP b) 8 0).ttl, .int .i64 (Ip.pieceAt (baseP b) 8 0).id, .bool (Ip.pieceAt (baseP b) 8 0).df, .bool (Ip.pieceAt (baseP b) 8 0).mf, .int .i64 (Ip.pieceAt (baseP b) 8 0).off, .string (Ip.pieceAt (baseP b) 8 0).s] 0 (World.grownBy.refl w5 (some Bd))) (.inl rfl) _) (.inl rfl) _
                have HL6 : Hid (L13 w b w1.heap.size T g pc [(keyOf (baseP b), H)] (fun q => q = Bd) (World.setCell (World.setCell (World.setCell (World.setCell (World.setCell (World.setCell (World.setCell (World.setCell (World.setCell (World.setCell (World.setCell w5 ⟨Bd, 0, none⟩ (.int .i64 (Ip.pieceAt (baseP b) 8 0).f)) ⟨Bd, 1, none⟩ (.int .i64 (Ip.pieceAt (baseP b) 8 0).t)) ⟨Bd, 2, none⟩ (.int .i64 (Ip.pieceAt (baseP b) 8 0).pr)) ⟨Bd, 3, none⟩ (.int .i64 (Ip.pieceAt (baseP b) 8 0).ttl)) ⟨Bd, 4, none⟩ (.int .i64 (Ip.pieceAt (baseP b) 8 0).id)) ⟨Bd, 5, none⟩ (.bool (Ip.pieceAt (baseP b) 8 0).df)) ⟨Bd, 6, none⟩ (.bool (Ip.pieceAt (baseP b) 8 0).mf)) ⟨Bd, 7, none⟩ (.int .i64 (Ip.pieceAt (baseP b) 8 0).off)) ⟨Bd, 8, none⟩ (.string (Ip.pieceAt (baseP b) 8 0).s)) ⟨Bd, 6, none⟩ (.bool false)) ⟨Bd, 7, none⟩ (.int .i64 8))) := Lib.hid ⟨HL5.out.one.grown hg6 (fun k ek => by cases ek; exact ⟨.inr rfl, hzr⟩), HL5.out.row.kept (fun a ea => by cases ea; exact hoth g (by omega))⟩
                clear hB6 hoth hg6 p0 p1 p2 p3 p4 p5 p6 p7 p8
                clear qN50 zN50 qN51 zN51 qN52 zN52 qN53 zN53 qN54 zN54 qN55 zN55 qN56 zN56 qN57 zN57 qN58 zN58 lt_N5
                generalize (World.setCell (World.setCell (World.setCell (World.setCell (World.setCell (World.setCell (World.setCell (World.setCell (World.setCell (World.setCell (World.setCell w5 ⟨Bd, 0, none⟩ (.int .i64 (Ip.pieceAt (baseP b) 8 0).f)) ⟨Bd, 1, none⟩ (.int .i64 (Ip.pieceAt (baseP b) 8 0).t)) ⟨Bd, 2, none⟩ (.int .i64 (Ip.pieceAt (baseP b) 8 0).pr)) ⟨Bd, 3, none⟩ (.int .i64 (Ip.pieceAt (baseP b) 8 0).ttl)) ⟨Bd, 4, none⟩ (.int .i64 (Ip.pieceAt (baseP b) 8 0).id)) ⟨Bd, 5, none⟩ (.bool (Ip.pieceAt (baseP b) 8 0).df)) ⟨Bd, 6, none⟩ (.bool (Ip.pieceAt (baseP b) 8 0).mf)) ⟨Bd, 7, none⟩ (.int .i64 (Ip.pieceAt (baseP b) 8 0).off)) ⟨Bd, 8, none⟩ (.string (Ip.pieceAt (baseP b) 8 0).s)) ⟨Bd, 6, none⟩ (.bool false)) ⟨Bd, 7, none⟩ (.int .i64 8)) = w6 at *
                obtain ⟨r0, r1, r2, r3, r4, r5, r6, r7, r8⟩ := HL6.out.row.cells hP1
                have hs1 : (Ip.pieceAt (baseP b) 8 1).s.size = 8 := by rw [piece_sz]; show min (8 * 1 + 8) b.size - 8 * 1 = 8; omega
                obtain ⟨U, hU⟩ : ∃ U, (Ip.pieceAt (baseP b) 8 1).s = U := ⟨_, rfl⟩
                rw [hU] at r8 hs1
                have hs2 : (1 : Int) < (U.size : Int) := by omega
                have hmn : ¬ (U.size : Int) < 1 := by omega
                have hs3 : (1 : Int) ≤ (U.size : Int) := by omega
                have hs0 : (0 : Int) ≤ 1 := by omega
                have q68 := (cell_of_block (k := 8) HN6.out rfl).1; have z68 := (cell_of_block (k := 8) HN6.out rfl).2
                clear r0 r1 r2 r3 r4 r5 r6 r7 hU hP0 hP1
                have hse : (U.extract 0 1).size = 1 := by rw [ByteArray.size_extract]; omega
                have HEP : Hid (badC b m (endP (U.extract 0 1))) := Lib.hid ⟨endP_valid _ hse, rfl, .inr (by show (8 : Int) ≠ 0; decide), by show (U.extract 0 1).size ≤ 500; omega, fun H hg => end_confl hg rfl (j := 15) (by show 15 < b.size; omega) (decide_eq_true (by omega)) (by show (8 : Int) + ((U.extract 0 1).size : Int) ≤ ((15 : Nat) : Int); omega)⟩
                clear hse
                go_region_with (fail)
                all_goals
                  go_wp2_with fail
                  go_meet
                  exact ⟨endP (U.extract 0 1), HEP.out, cells_eq (block_setCell (k := 8) (v := .string (U.extract 0 1)) HN6.out) rfl, L13.below ⟨HL6.out.one.setCell ⟨.inr rfl, hzr⟩ _, HL6.out.row.kept (fun a ea => by cases ea; exact Below.heap_setCell _ _ _ _ (by show g ≠ Bd; omega))⟩ (Below.refl _ _).drew⟩
            case rest =>
              obtain ⟨Q, hQ, hnQ, hlQ⟩ := hcut
              obtain ⟨w7, rfl⟩ : ∃ wo : World, wo = wc := ⟨_, rfl⟩
              have HQ := Lib.hid hQ; have HN7 := Lib.hid hnQ; have HL7 := Lib.hid hlQ; clear hQ hnQ hlQ HN5 HL5 HBC hsz0 hp5
              have hm2 : ((m : Int) == 2) = false := by rw [beq_eq_false_iff_ne]; omega
              go_upto_region 24 with fail
              go_cut [114] (fun s wx => s = .bool false ∧ wx = w7)
              case first =>
                cases be
                all_goals
                  go_wp2_with fail
                  go_meet
                  exact ⟨rfl, rfl⟩
              case rest =>
                obtain ⟨rfl, rfl⟩ := hcut
                obtain ⟨w7, rfl⟩ : ∃ wo : World, wo = wc := ⟨_, rfl⟩
                obtain ⟨q1, q2, q3, q4, q5⟩ := HQ.out
                have hput1 := putA_confl (H := H) 5 q2 q1 q3 HHG.out.rej (q5 H HHG.out)
                have HPUT1 := Lib.hid (HL7.out.put 5 Q pk0 false 70 hput1 q4 (by simp) (by unfold In64; omega))
                clear q1 q2 q3 q4 q5 hput1
                have qN70 := (cell_of_block (k := 0) HN7.out rfl).1; have zN70 := (cell_of_block (k := 0) HN7.out rfl).2; have qN71 := (cell_of_block (k := 1) HN7.out rfl).1; have zN71 := (cell_of_block (k := 1) HN7.out rfl).2; have qN72 := (cell_of_block (k := 2) HN7.out rfl).1; have zN72 := (cell_of_block (k := 2) HN7.out rfl).2; have qN73 := (cell_of_block (k := 3) HN7.out rfl).1; have zN73 := (cell_of_block (k := 3) HN7.out rfl).2; have qN74 := (cell_of_block (k := 4) HN7.out rfl).1; have zN74 := (cell_of_block (k := 4) HN7.out rfl).2; have qN75 := (cell_of_block (k := 5) HN7.out rfl).1; have zN75 := (cell_of_block (k := 5) HN7.out rfl).2; have qN76 := (cell_of_block (k := 6) HN7.out rfl).1; have zN76 := (cell_of_block (k := 6) HN7.out rfl).2; have qN77 := (cell_of_block (k := 7) HN7.out rfl).1; have zN77 := (cell_of_block (k := 7) HN7.out rfl).2; have qN78 := (cell_of_block (k := 8) HN7.out rfl).1; have zN78 := (cell_of_block (k := 8) HN7.out rfl).2; have lt_N7 := blk_lt HN7.out
                go_wp2_with fail
                refine HPUT1.out.mono ?_
                rintro y w8 ⟨rfl, hL8⟩
                have HL9 := Lib.hid (hL8.below ((Below.refl _ _).alloc (Nat.le_refl _) (.cells #[.int .i64 0, .int .i64 0, .int .i64 0, .int .i64 0, .int .i64 0, .bool false, .bool false, .int .i64 0, .string ⟨#[]⟩] 30)))
                clear hL8 HPUT1
                clear qN70 zN70 qN71 zN71 qN72 zN72 qN73 zN73 qN74 zN74 qN75 zN75 qN76 zN76 qN77 zN77 qN78 zN78 lt_N7
                unfold PutRes PkV pk0
                dsimp only
                have hPl : (partsL b 8)[m - 1]? = some (Ip.pieceAt (baseP b) 8 (m - 1)) := by rw [HPL.out, HMC.out]; exact frags_at _ _ _ _ (by omega)
                have hltl := (Ip.count_lt (baseP b) 8 (m - 1) (by omega)).1 (by rw [HMC.out]; omega)
                have hputl := putA_rej (H := rejF H) (k := keyOf (baseP b)) (p := Ip.pieceAt (baseP b) 8 (m - 1)) 6 rfl (piece_valid (base_valid b hb5) rfl 8 (m - 1) (by omega) (by omega) hltl) (.inr (by rw [piece_off HCUT.out]; omega)) rfl
                have hps := stA_valid hb5 hPl
                go_upto_region 27 with fail
                generalize w8.alloc (.cells #[.int .i64 0, .int .i64 0, .int .i64 0, .int .i64 0, .int .i64 0, .bool false, .bool false, .int .i64 0, .string ⟨#[]⟩] 30) = w9 at *
                have HPUT2 := Lib.hid (HL9.out.put 6 _ pk0 false 70 hputl hps (by simp) (by unfold In64; omega))
                obtain ⟨p0, p1, p2, p3, p4, p5, p6, p7, p8⟩ := HL9.out.row.cells hPl
                have hme : (m : Int) - 1 = ((m - 1 : Nat) : Int) := by omega
                obtain ⟨ml, hml⟩ : ∃ ml, m - 1 = ml := ⟨_, rfl⟩
                rw [hml] at hme p0 p1 p2 p3 p4 p5 p6 p7 p8 HPUT2
                have hml1 : (ml : Int) < (m : Int) := by omega
                have hml0 : (0 : Int) ≤ (ml : Int) := by omega
                clear hPl hltl hputl hps hml
                go_wp2_with fail
                refine HPUT2.out.mono ?_
                rintro y w10 ⟨rfl, hL10⟩
                have HL11 := Lib.hid (hL10.below ((Below.refl _ _).alloc (Nat.le_refl _) (.cells #[.int .i64 0, .int .i64 0, .int .i64 0, .int .i64 0, .int .i64 0, .bool false, .bool false, .int .i64 0, .string ⟨#[]⟩] 30)))
                clear hL10 HPUT2 p0 p1 p2 p3 p4 p5 p6 p7 p8
                unfold PutRes PkV pk0
                dsimp only
                go_upto_region 28 with fail
                generalize w10.alloc (.cells #[.int .i64 0, .int .i64 0, .int .i64 0, .int .i64 0, .int .i64 0, .bool false, .bool false, .int .i64 0, .string ⟨#[]⟩] 30) = w11 at *
                go_wp2_with fail
                refine (HL11.out.one.sizes 1 0 rfl rfl (by omega)).mono ?_
                rintro y w12 ⟨rfl, hb12⟩
                have HL12 := Lib.hid (HL11.out.below hb12); clear hb12
                have HT1 := Lib.hid (HL12.out.tick 34 [] 0 (told_rej 34 _ H) rfl (keep_rej 34 _ H (by have := HHS.out; omega)) (by simp) (by unfold In64; omega))
                go_wp2_with fail
                refine HT1.out.mono ?_
                rintro y w13 ⟨⟨B2, c2, rfl⟩, hL13⟩
                have HL13 := Lib.hid hL13; clear hL13 HT1
                go_wp2_with fail
                refine (HL13.out.one.sizes 1 0 rfl rfl (by omega)).mono ?_
                rintro y w14 ⟨rfl, hb14⟩
                have HL14 := Lib.hid (HL13.out.below hb14); clear hb14
                have HT2 := Lib.hid (HL14.out.tick 35 [] 0 (told_rej 35 _ H) rfl (drop_rej 35 _ H (by have := HHS.out; omega)) (by simp) (by unfold In64; omega))
                go_wp2_with fail
                refine HT2.out.mono ?_
                rintro y w15 ⟨⟨B3, c3, rfl⟩, hL15⟩
                have HL15 := Lib.hid hL15; clear hL15 HT2
                go_wp2_with fail
                refine (HL15.out.one.sizes 0 0 rfl rfl (by omega)).mono ?_
                rintro y w16 ⟨rfl, hb16⟩
                have HL16 := Lib.hid (HL15.out.below hb16); clear hb16
                clear HL12 HL13 HL14 HL15 HL11 HL9 HL7 HHS HHG HQ HN7
                go_wp2_with fail
                go_loopw [30, 31] (fun a i wr => ∃ (j : Nat) (A1 : List (Ky × Hf)) (u : ByteArray), j ≤ m ∧ i = .int .i64 (j : Int) ∧ a = .string u ∧ (j = m → u = b) ∧ StI b 8 j 40 A1 ∧ L13 w b w1.heap.size T g pc A1 (fun _ => False) wr) (fun _ i _ => m - (Go.RowKit.intOf i).toNat)
                case atStart => exact ⟨0, [], ⟨#[]⟩, by omega, rfl, rfl, fun q => by omega, sti_start b 8 40, HL16.out⟩
                case round =>
                  clear HL16
                  obtain ⟨j, A1, u, hj, rfl, rfl, hu, hst, hL⟩ := hrel
                  have HL := Lib.hid hL; have HST := Lib.hid hst; have HU := Lib.hid hu; clear hL hst hu
                  have j0 : (0 : Int) ≤ (j : Int) := by omega
                  by_cases hjm : j < m
                  · have e1 : decide ((j : Int) < (m : Int)) = true := decide_eq_true (by omega)
                    have j1 : (j : Int) < (m : Int) := by omega
                    obtain ⟨A2, q, ok, hput, hst2, hok, hq⟩ := sti_put hb5 (by omega) HCUT.out HST.out (by rw [HMC.out]; omega)
                    rw [HMC.out] at hok
                    have hP : (partsL b 8)[j]? = some (Ip.pieceAt (baseP b) 8 j) := by rw [HPL.out, HMC.out]; exact frags_at _ _ _ _ (by omega)
                    have hps := stA_valid hb5 hP
                    obtain ⟨P, hPe⟩ : ∃ P, Ip.pieceAt (baseP b) 8 j = P := ⟨_, rfl⟩
                    rw [hPe] at hput hP hps
                    have HPUT := Lib.hid (HL.out.putS 40 P q ok 0 hput hps (sti_length HST.out (by rw [HMC.out]; omega)) (by unfold In64; omega))
                    obtain ⟨p0, p1, p2, p3, p4, p5, p6, p7, p8⟩ := HL.out.row.cells hP
                    have HST2 := Lib.hid hst2
                    have HV : Hid (j + 1 = m → putS (A2, q, ok, 0) = b) := Lib.hid fun h => by
                      have ht := hok.2 h
                      have := hq ht
                      subst this; subst ht
                      unfold putS
                      rw [if_neg (by simp), if_pos rfl]; rfl
                    clear hst2 hput hP hps hPe hok hq
                    obtain ⟨v, hv⟩ : ∃ v, putS (A2, q, ok, 0) = v := ⟨_, rfl⟩
                    rw [hv] at HPUT HV
                    clear hv
                    go_wp2_with fail
                    refine HPUT.out.mono ?_
                    rintro y w20 ⟨rfl, hL20⟩
                    have HL20 := Lib.hid hL20
                    clear hL20 HPUT p0 p1 p2 p3 p4 p5 p6 p7 p8
                    go_wp2_with fail
                    exact ⟨⟨j + 1, A2, v, by omega, by go_num, rfl, HV.out, HST2.out, HL20.out⟩, by simp [Go.RowKit.intOf]; omega⟩
                  · have e1 : decide ((j : Int) < (m : Int)) = false := decide_eq_false (by omega)
                    have hub := HU.out (by omega)
                    subst hub
                    have HBL := Lib.hid HL.out.one.bel
                    go_wp2_with fail
                    go_ret
                    exact ⟨rfl, HBL.out⟩
theorem confl_law' (s : ByteArray) (x : Int) (be : Bool) (w : World) (hs : s.size ≤ 9223372036854775807) (hx : 0 ≤ x ∧ x ≤ 255) :
    Calls Try.prog 6 #[.string s, .int .u8 x, .bool be] w fun y w' => y = .returned (.bool true) ∧ Below w.heap.size w w' := by
  obtain ⟨n, rfl⟩ := Int.eq_ofNat_of_zero_le hx.1
  exact confl_law s n be w hs (by omega)
end Go.Proofs.Ytmeldgnjgogacaa.Re
