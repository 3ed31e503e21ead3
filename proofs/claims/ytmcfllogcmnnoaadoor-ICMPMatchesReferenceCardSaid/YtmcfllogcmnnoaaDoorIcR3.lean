/-
  The contract of the reference's Decode of chapter 8: what the program's Decode gives.
-/
import Derived.Test.YtmcfllogcmnnoaaDoorIcR2
import Derived.Deep.RegionWith
import Derived.Deep.DeepCutAuto
namespace Go.Proofs.YtmcfllogcmnnoaaDoor.Ic
set_option maxRecDepth 100000
open Go.RowKit Go.Proofs.YtmcfllogcmnnoaaDoor.Wire

theorem byte_num (s : ByteArray) (i : Nat) (h : i < s.size) : num (bytesAt s i 1) = ((s[i].toNat : Nat) : Int) := by
  have h' : i < s.data.toList.length := h
  unfold bytesAt
  have e : (s.data.toList.drop i).take 1 = [s.data.toList[i]] := by
    rw [List.drop_eq_getElem_cons h']; rfl
  rw [e]
  simp [num]
  rfl
set_option maxHeartbeats 4000000 in
theorem rDecode_any (s : ByteArray) (hs : s.size ≤ 600) (w : World) : Calls Tryd.prog 17 #[.string s] w (DecPost s w) := by
  have H2 := Lib.hid (alloc_new w (.cells #[.int .i64 0, .int .i64 0, .int .i64 0, .string ⟨#[]⟩] 23))
  have HB := below_alloc (o := .cells #[.int .i64 0, .int .i64 0, .int .i64 0, .string ⟨#[]⟩] 23) (Below.refl w.heap.size w)
  by_cases h8 : s.size < 8
  · have hz : (s.size : Int) < 8 := by omega
    obtain ⟨⟨c0, c1, c2, c3⟩, z0, z1, z2, z3⟩ := cells4 H2.out
    go_enter Tryd.func17, Tryd.ntmps17
    go_wp2_with fail
    refine bodyPost_ret (v := .tuple #[.agg #[.int .i64 0, .int .i64 0, .int .i64 0, .string ⟨#[]⟩], .int .i64 80]) (res_cell_tmp Tryd.results17 (by exact H2.out) rfl Tryd.underlying23 rfl infoMsg9) rfl ⟨HB, .inr ⟨fun q => by have := q.1; omega, (by rfl)⟩⟩
  have hz : ¬ (s.size : Int) < 8 := by omega
  have hz2 : ¬ (600 : Int) < (s.size : Int) := by omega
  have hz3 : (8 : Int) ≤ (s.size : Int) := by omega
  have hz4 : (0 : Int) < (s.size : Int) := by omega
  have hz5 : (1 : Int) < (s.size : Int) := by omega
  have HG : Hid (∀ W, Calls Tryd.prog 42 #[.string s, .int .i64 4, .int .i64 4] W fun e w' => e = .returned (.tuple #[.int .i64 (fval s 3), .int .i64 0]) ∧ W = w') := Lib.hid fun W => rget_ok s 4 4 W (by omega) (by omega) (by omega) (by omega)
  have b0 := u8_bd s[0]
  have b1 := u8_bd s[1]
  have hw0 : IntKind.i64.wrap ((s[0].toNat : Nat) : Int) = ((s[0].toNat : Nat) : Int) := IntWalk.i64_in _ (by omega)
  have hw1 : IntKind.i64.wrap ((s[1].toNat : Nat) : Int) = ((s[1].toNat : Nat) : Int) := IntWalk.i64_in _ (by omega)
  have HQ : Hid (.agg #[.int .i64 ((s[0].toNat : Nat) : Int), .int .i64 ((s[1].toNat : Nat) : Int), .int .i64 (fval s 3), .string (s.extract 8 s.size)] = dcV s) := Lib.hid (by
    unfold dcV tailOf
    rw [← byte_num s 0 (by omega), ← byte_num s 1 (by omega)]
    rfl)
  go_enter Tryd.func17, Tryd.ntmps17
  go_upto_region 4 with (go_at_call 42; (with_reducible refine (HG.out _).mono ?_); rintro e w' ⟨rfl, rfl⟩)
  go_cut [6] (fun s6 wx => ∃ B : Nat, s6 = .pointer (some ⟨B, 0, none⟩) ∧ wx.heap[B]? = some (.cells #[.int .i64 ((s[0].toNat : Nat) : Int), .int .i64 ((s[1].toNat : Nat) : Int), .int .i64 (fval s 3), .string (s.extract 8 s.size)] 23 (0, 0)) ∧ wx.heap[w.heap.size]? = some (.cells #[.int .i64 0, .int .i64 0, .int .i64 0, .string ⟨#[]⟩] 23 (0, 0)) ∧ Below w.heap.size w wx)
  case first =>
    go_region_with (fail)
    all_goals
      go_wp2_with fail
      go_meet
      exact ⟨_, rfl, by first | exact alloc_new' _ _ _ (by simp) | exact alloc_new' (World.drew _) _ _ (by simp), by first | exact block_alloc H2.out _ | exact block_alloc (W := World.drew _) H2.out _, by repeat (first | exact HB | apply Below.drew | apply below_alloc)⟩
  case rest =>
    clear H2 HB hw0 hw1 b0 b1 HG
    obtain ⟨B, rfl, hm, h2, HB⟩ := hcut
    have HM := Lib.hid hm; have H2 := Lib.hid h2; clear hm h2
    obtain ⟨⟨m0, m1, m2, m3⟩, -⟩ := cells4 HM.out
    by_cases hok : MOk (fval s 0) (fval s 1) (fval s 3) (tailOf s).size
    · have HE : Hid (∀ W, Calls Tryd.prog 15 #[.agg #[.int .i64 ((s[0].toNat : Nat) : Int), .int .i64 ((s[1].toNat : Nat) : Int), .int .i64 (fval s 3), .string (s.extract 8 s.size)]] W fun e w' => e = .returned (.tuple #[.string ⟨(menc (fval s 0) (fval s 1) (fval s 3) (tailOf s)).toArray⟩, .int .i64 0]) ∧ Below W.heap.size W w') := Lib.hid fun W => by
        rw [HQ.out]; exact rMEncode_ok _ _ _ _ W hok
      have HO := Lib.hid hok; clear hok
      have HD : Hid (dcK s ↔ (⟨(menc (fval s 0) (fval s 1) (fval s 3) (tailOf s)).toArray⟩ : ByteArray) = s) := Lib.hid ⟨fun q => q.2.2, fun q => ⟨by omega, HO.out, q⟩⟩
      generalize (⟨(menc (fval s 0) (fval s 1) (fval s 3) (tailOf s)).toArray⟩ : ByteArray) = t at *
      by_cases hts : t = s
      · have HT := Lib.hid hts
        have hbq : (t.toList == s.toList) = true := by rw [hts]; simp
        clear hts
        go_upto_region 8 with (go_at_call 15; (with_reducible refine (HE.out _).mono ?_); rintro e w3 ⟨rfl, hb⟩; have HM3 := Lib.hid (bblock hb HM.out); obtain ⟨⟨k0, k1, k2, k3⟩, -⟩ := cells4 HM3.out; have H3 := Lib.hid (bblock hb H2.out); obtain ⟨⟨c0, c1, c2, c3⟩, z0, z1, z2, z3⟩ := cells4 H3.out; have lR := blk_lt H3.out; have HB3 := below_call HB hb)
        go_wp2_with fail
        have HZ := stN_all [.int .i64 ((s[0].toNat : Nat) : Int), .int .i64 ((s[1].toNat : Nat) : Int), .int .i64 (fval s 3), .string (s.extract 8 s.size)] H3.out rfl
        refine bodyPost_ret (v := .tuple #[.agg #[.int .i64 ((s[0].toNat : Nat) : Int), .int .i64 ((s[1].toNat : Nat) : Int), .int .i64 (fval s 3), .string (s.extract 8 s.size)], .int .i64 0]) (res_cell_tmp Tryd.results17 (by exact HZ) rfl Tryd.underlying23 rfl infoMsg9) rfl ⟨?_, .inl ⟨HD.out.2 HT.out, (by rw [← HQ.out])⟩⟩
        exact stN_below (B := w.heap.size) (by omega) [.int .i64 ((s[0].toNat : Nat) : Int), .int .i64 ((s[1].toNat : Nat) : Int), .int .i64 (fval s 3), .string (s.extract 8 s.size)] _ 0 HB3
      · have HT := Lib.hid hts
        have hbq : (t.toList == s.toList) = false := ba_ne hts
        clear hts
        go_upto_region 7 with (go_at_call 15; (with_reducible refine (HE.out _).mono ?_); rintro e w3 ⟨rfl, hb⟩; have H3 := Lib.hid (bblock hb H2.out); obtain ⟨⟨c0, c1, c2, c3⟩, z0, z1, z2, z3⟩ := cells4 H3.out; have lR := blk_lt H3.out; have HB3 := below_call HB hb)
        go_wp2_with fail
        have HZ := stN_all [.int .i64 0, .int .i64 0, .int .i64 0, .string ⟨#[]⟩] H3.out rfl
        refine bodyPost_ret (v := .tuple #[.agg #[.int .i64 0, .int .i64 0, .int .i64 0, .string ⟨#[]⟩], .int .i64 80]) (res_cell_tmp Tryd.results17 (by exact HZ) rfl Tryd.underlying23 rfl infoMsg9) rfl ⟨?_, .inr ⟨fun q => HT.out (HD.out.1 q), (by rfl)⟩⟩
        exact stN_below (B := w.heap.size) (by omega) [.int .i64 0, .int .i64 0, .int .i64 0, .string ⟨#[]⟩] _ 0 HB3
    · have HE : Hid (∀ W, Calls Tryd.prog 15 #[.agg #[.int .i64 ((s[0].toNat : Nat) : Int), .int .i64 ((s[1].toNat : Nat) : Int), .int .i64 (fval s 3), .string (s.extract 8 s.size)]] W fun e w' => e = .returned (.tuple #[.string ⟨#[]⟩, .int .i64 80]) ∧ Below W.heap.size W w') := Lib.hid fun W => by
        rw [HQ.out]; exact rMEncode_no _ _ _ _ W (by unfold tailOf; rw [ByteArray.size_extract]; omega) hok
      have HO := Lib.hid hok; clear hok
      go_upto_region 7 with (go_at_call 15; (with_reducible refine (HE.out _).mono ?_); rintro e w3 ⟨rfl, hb⟩; have H3 := Lib.hid (bblock hb H2.out); obtain ⟨⟨c0, c1, c2, c3⟩, z0, z1, z2, z3⟩ := cells4 H3.out; have lR := blk_lt H3.out; have HB3 := below_call HB hb)
      go_wp2_with fail
      have HZ := stN_all [.int .i64 0, .int .i64 0, .int .i64 0, .string ⟨#[]⟩] H3.out rfl
      refine bodyPost_ret (v := .tuple #[.agg #[.int .i64 0, .int .i64 0, .int .i64 0, .string ⟨#[]⟩], .int .i64 80]) (res_cell_tmp Tryd.results17 (by exact HZ) rfl Tryd.underlying23 rfl infoMsg9) rfl ⟨?_, .inr ⟨fun q => HO.out q.2.1, (by rfl)⟩⟩
      exact stN_below (B := w.heap.size) (by omega) [.int .i64 0, .int .i64 0, .int .i64 0, .string ⟨#[]⟩] _ 0 HB3
end Go.Proofs.YtmcfllogcmnnoaaDoor.Ic
