/-
  The walk of the law ReassemblyExpiryMatchesReference.
-/
import Derived.Test.YtmeldgnjgogacaaReL10
namespace Go.Proofs.Ytmeldgnjgogacaa.Re
set_option maxRecDepth 100000
open Go.RowKit Go.Proofs.Ytmeldgnjgogacaa.Wire
open Go.Proofs.Ytmeldgnjgogacaa.Ip (Pk vlenB VLen)

theorem wrap_in (x : Int) : In64 (wrap64 x) := by unfold In64 wrap64; omega
set_option maxHeartbeats 8000000 in
theorem expiry_law (wh of lo : Nat) (mo : Bool) (od : Nat) (bg now : Int) (w : World) (h0 : wh < 256) (h1 : of < 256) (h2 : lo < 256) (h3 : od < 256) (hbg : In64 bg) (hnow : In64 now) :
    Calls Try.prog 3 #[.agg #[.int .u8 (wh : Int), .int .u8 (of : Int), .int .u8 (lo : Int), .bool mo, .int .u8 (od : Int)], .int .i64 bg, .int .i64 now] w fun x w' => x = .returned (.bool true) ∧ Below w.heap.size w w' := by
  have HX := Lib.hid (alloc_new w (.cells #[.int .u8 (wh : Int), .int .u8 (of : Int), .int .u8 (lo : Int), .bool mo, .int .u8 (od : Int)] 23))
  have HB := Lib.hid (below_alloc (o := .cells #[.int .u8 (wh : Int), .int .u8 (of : Int), .int .u8 (lo : Int), .bool mo, .int .u8 (od : Int)] 23) (Below.refl w.heap.size w))
  have HPO : Hid (∀ W, Calls Try.prog 15 #[.agg #[.int .u8 (wh : Int), .int .u8 (of : Int), .int .u8 (lo : Int), .bool true, .int .u8 (od : Int)]] W fun x w' => x = .returned (PkV (partOf wh of lo true od)) ∧ Below W.heap.size W w') := Lib.hid fun W => partOf_any wh of lo true od W h0 h1 h2 h3
  have hval := partOf_valid wh of lo true od
  have hsz := partOf_size wh of lo true od
  have hpl := partN_le lo true
  have hmf : (partOf wh of lo true od).mf = true := rfl
  obtain ⟨P, hP⟩ : ∃ P, partOf wh of lo true od = P := ⟨_, rfl⟩
  rw [hP] at HPO hval hsz hmf
  have hPm : ({ P with mf := true } : Pk) = P := by
    obtain ⟨a, b, c, d, e, f, g, h, i⟩ := P
    cases hmf; rfl
  have hvb := vld_bounds hval
  have HV := Lib.hid hval; have HM := Lib.hid hmf; have HPM := Lib.hid hPm; have HSZ := Lib.hid hsz; have HVB := Lib.hid hvb; have HBG := Lib.hid hbg; have HNOW := Lib.hid hnow
  have hp24 : P.s.size ≤ 24 := by omega
  have HP24 := Lib.hid hp24
  clear hval hsz hpl hmf hP hPm hvb h0 h1 h2 h3 hp24 hbg hnow
  go_enter Try.func3, Try.ntmps3
  go_upto_region 1 with fail
  generalize w.alloc (.cells #[.int .u8 (wh : Int), .int .u8 (of : Int), .int .u8 (lo : Int), .bool mo, .int .u8 (od : Int)] 23) = w0 at *
  go_wp2_with fail
  refine (examples_any _).mono ?_
  rintro x w1 ⟨rfl, hb1⟩
  have HX1 := Lib.hid (bblock hb1 HX.out); have HB1 := Lib.hid (below_call HB.out hb1); clear hb1 HX HB
  go_wp2_with fail
  refine (new_tt _).mono ?_
  intro x w2 hx
  obtain ⟨T, rfl, ho, hb2⟩ := OneT.ofNew HB1.out hx
  have HX2 := Lib.hid (bblock hb2 HX1.out); have HO := Lib.hid ho
  have hz12 := hb2.size; have hzx := blk_lt HX1.out
  clear hx ho hb2 HX1 HB1
  go_wp2_with fail
  refine (rnew_any _).mono ?_
  rintro x w3 ⟨rfl, hU, hb3⟩
  obtain ⟨U, hUe⟩ : ∃ U, w2.heap.size = U := ⟨_, rfl⟩
  rw [hUe] at hU ⊢
  have HO3 : Hid (OneT w T [] (fun q => q = w.heap.size ∨ U ≤ q) w3) := Lib.hid ((HO.out.more (fun q hq => by rcases hq with r | r; (exact .inl (by show q < w1.heap.size; omega)); (exact .inr (by omega)))).below hb3)
  have HX3 := Lib.hid (bblock hb3 HX2.out); have HU3 := Lib.hid hU
  have hzU := HO.out.bel.size
  have hU3 := blk_lt hU
  clear hU hb3 HO HX2
  obtain ⟨x3, y3⟩ := (cell_of_block (k := 3) HX3.out rfl)
  go_upto_region 7 with fail
  have HX4 := Lib.hid (cells_eq (b := #[.int .u8 (wh : Int), .int .u8 (of : Int), .int .u8 (lo : Int), .bool true, .int .u8 (od : Int)]) (block_setCell (k := 3) (v := .bool true) HX3.out) (by simp))
  have HO4 := Lib.hid (HO3.out.setCell (p := ⟨w.heap.size, 3, none⟩) ⟨.inl rfl, Nat.le_refl _⟩ (.bool true))
  have HU4 := Lib.hid (block_set_other (a := ⟨w.heap.size, 3, none⟩) (u := .bool true) HU3.out (by show w.heap.size ≠ U; omega))
  have hU4 := blk_lt HU4.out
  clear HX3 HO3 HU3 x3 y3
  generalize World.setCell w3 ⟨w.heap.size, 3, none⟩ (.bool true) = w4 at *
  have qX40 := (cell_of_block (k := 0) HX4.out rfl).1; have qX41 := (cell_of_block (k := 1) HX4.out rfl).1; have qX42 := (cell_of_block (k := 2) HX4.out rfl).1; have qX43 := (cell_of_block (k := 3) HX4.out rfl).1; have qX44 := (cell_of_block (k := 4) HX4.out rfl).1
  go_wp2_with fail
  refine (HPO.out _).mono ?_
  rintro x w5 ⟨rfl, hb5⟩
  clear qX40 qX41 qX42 qX43 qX44
  unfold PkV
  rw [HM.out]
  dsimp only
  have HO5 := Lib.hid ((HO4.out.below hb5).below ((Below.refl _ _).alloc (Nat.le_refl _) (.cells #[.int .i64 P.f, .int .i64 P.t, .int .i64 P.pr, .int .i64 P.ttl, .int .i64 P.id, .bool P.df, .bool true, .int .i64 P.off, .string P.s] 30)))
  have HU5 := Lib.hid (block_alloc (bblock hb5 HU4.out) (.cells #[.int .i64 P.f, .int .i64 P.t, .int .i64 P.pr, .int .i64 P.ttl, .int .i64 P.id, .bool P.df, .bool true, .int .i64 P.off, .string P.s] 30))
  have HP5 := Lib.hid (alloc_new w5 (.cells #[.int .i64 P.f, .int .i64 P.t, .int .i64 P.pr, .int .i64 P.ttl, .int .i64 P.id, .bool P.df, .bool true, .int .i64 P.off, .string P.s] 30))
  obtain ⟨pb, hpb⟩ : ∃ pb, w5.heap.size = pb := ⟨_, rfl⟩
  have hpU : U < pb := by have := hb5.size; omega
  rw [hpb] at HP5
  clear hb5 HO4 HU4 HX4
  go_upto_region 8 with fail
  try rw [hpb]
  clear hpb
  generalize w5.alloc (.cells #[.int .i64 P.f, .int .i64 P.t, .int .i64 P.pr, .int .i64 P.ttl, .int .i64 P.id, .bool P.df, .bool true, .int .i64 P.off, .string P.s] 30) = w6 at *
  have qP50 := (cell_of_block (k := 0) HP5.out rfl).1; have qP51 := (cell_of_block (k := 1) HP5.out rfl).1; have qP52 := (cell_of_block (k := 2) HP5.out rfl).1; have qP53 := (cell_of_block (k := 3) HP5.out rfl).1; have qP54 := (cell_of_block (k := 4) HP5.out rfl).1; have qP55 := (cell_of_block (k := 5) HP5.out rfl).1; have qP56 := (cell_of_block (k := 6) HP5.out rfl).1; have qP57 := (cell_of_block (k := 7) HP5.out rfl).1; have qP58 := (cell_of_block (k := 8) HP5.out rfl).1
  go_wp2_with fail
  refine (HO5.out.put bg { P with mf := true } _ _ _ _ (putA_new (by rw [HPM.out]; exact HV.out) rfl (by simp)) (by have := HP24.out; show P.s.size ≤ _; omega) (.inl (by simp)) (by simp) HBG.out).mono ?_
  rintro x w7 ⟨rfl, ho7, hz7, hk7⟩
  unfold PutRes PkV pk0
  dsimp only
  clear qP50 qP51 qP52 qP53 qP54 qP55 qP56 qP57 qP58
  have hp6 := blk_lt HP5.out
  have HP7 := Lib.hid (block_alloc ((hk7 pb (.inr (by omega)) hp6).trans HP5.out) (.cells #[.int .i64 0, .int .i64 0, .int .i64 0, .int .i64 0, .int .i64 0, .bool false, .bool false, .int .i64 0, .string ⟨#[]⟩] 30))
  have HU7 := Lib.hid (block_alloc ((hk7 U (.inr (Nat.le_refl _)) (blk_lt HU5.out)).trans HU5.out) (.cells #[.int .i64 0, .int .i64 0, .int .i64 0, .int .i64 0, .int .i64 0, .bool false, .bool false, .int .i64 0, .string ⟨#[]⟩] 30))
  have HO7 : Hid (OneT w T [(keyOf { P with mf := true }, storeF (newF bg) { P with mf := true })] (fun q => q = U ∨ w7.heap.size ≤ q) (w7.alloc (.cells #[.int .i64 0, .int .i64 0, .int .i64 0, .int .i64 0, .int .i64 0, .bool false, .bool false, .int .i64 0, .string ⟨#[]⟩] 30))) := Lib.hid ((ho7.more (fun q hq => by rcases hq with r | r; (exact .inl ⟨.inr (by omega), by have := blk_lt HU5.out; omega⟩); (exact .inr r))).below ((Below.refl _ _).alloc (Nat.le_refl _) _))
  have HA7 := Lib.hid (alloc_new w7 (.cells #[.int .i64 0, .int .i64 0, .int .i64 0, .int .i64 0, .int .i64 0, .bool false, .bool false, .int .i64 0, .string ⟨#[]⟩] 30))
  have hz8 : w7.heap.size < (w7.alloc (.cells #[.int .i64 0, .int .i64 0, .int .i64 0, .int .i64 0, .int .i64 0, .bool false, .bool false, .int .i64 0, .string ⟨#[]⟩] 30)).heap.size := by simp
  obtain ⟨ab, hab⟩ : ∃ ab, w7.heap.size = ab := ⟨_, rfl⟩
  rw [hab] at HA7 HO7 hz8
  clear ho7 hk7 HO5 HU5 HP5
  go_upto_region 9 with fail
  try rw [hab]
  have hab2 : w6.heap.size ≤ ab := by omega
  clear hab hz7
  generalize w7.alloc (.cells #[.int .i64 0, .int .i64 0, .int .i64 0, .int .i64 0, .int .i64 0, .bool false, .bool false, .int .i64 0, .string ⟨#[]⟩] 30) = w8 at *
  have qP70 := (cell_of_block (k := 0) HP7.out rfl).1; have qP71 := (cell_of_block (k := 1) HP7.out rfl).1; have qP72 := (cell_of_block (k := 2) HP7.out rfl).1; have qP73 := (cell_of_block (k := 3) HP7.out rfl).1; have qP74 := (cell_of_block (k := 4) HP7.out rfl).1; have qP75 := (cell_of_block (k := 5) HP7.out rfl).1; have qP76 := (cell_of_block (k := 6) HP7.out rfl).1; have qP77 := (cell_of_block (k := 7) HP7.out rfl).1; have qP78 := (cell_of_block (k := 8) HP7.out rfl).1
  go_wp2_with fail
  refine (rput_new U bg P w8 HU7.out (by rw [HPM.out]; exact HV.out)).mono ?_
  rintro x w9 ⟨rfl, hr9, hg9⟩
  unfold PutRes PkV pk0
  dsimp only
  clear qP70 qP71 qP72 qP73 qP74 qP75 qP76 qP77 qP78
  have hz9 := hg9.size
  have ha8 := blk_lt HA7.out
  have hr9' : ROne ab U P bg (F0 P) (decide (P.off = 0)) (marks P.off.toNat P.s.size) w9 := by
    obtain ⟨hb, gb, gt, gl, c, by_, r1, r2, r3, r4, r5, r6, r7, r8⟩ := hr9
    obtain ⟨n1, n2, n3, n4⟩ := r1.ne
    have hF : (if P.off = 0 then { P with mf := true } else pk0 : Pk) = F0 P := by rw [HPM.out]; rfl
    rw [hF] at r1
    refine ⟨hb, gb, gt, gl, c, by_, ⟨r1.h, r1.b, r1.t, ⟨by omega, by omega, by omega, n4⟩, r1.len⟩, r2, ⟨r3.1, ?_⟩, by omega, r5, r6, r7, by omega⟩
    rcases r3.2 with q | ⟨g', cap', cur, e, q1, q2⟩
    · exact .inl q
    · exact .inr ⟨g', cap', cur, e, by omega, q2⟩
  have ho9 : OneT w T (a1 P bg true) (fun q => q = U ∨ ab ≤ q) w9 := by
    have h := HO7.out.grown hg9 (fun k e => by cases e; exact ⟨.inl rfl, by omega⟩)
    rw [HPM.out] at h
    exact h
  have HS9 : Hid (S10 w ab T U P bg true true (w9.alloc (.cells #[.int .i64 0, .int .i64 0, .int .i64 0, .int .i64 0, .int .i64 0, .bool false, .bool false, .int .i64 0, .string ⟨#[]⟩] 30))) := Lib.hid ((show S10 w ab T U P bg true true w9 from ⟨ho9, fun _ => hr9', (fun e => by cases e), ⟨by omega, by omega, by omega⟩⟩).below ((Below.refl _ _).alloc (Nat.le_refl _) _))
  have HA9 := Lib.hid (block_alloc ((hg9.block ab ha8 (by simp; omega)).trans HA7.out) (.cells #[.int .i64 0, .int .i64 0, .int .i64 0, .int .i64 0, .int .i64 0, .bool false, .bool false, .int .i64 0, .string ⟨#[]⟩] 30))
  have HC9 := Lib.hid (alloc_new w9 (.cells #[.int .i64 0, .int .i64 0, .int .i64 0, .int .i64 0, .int .i64 0, .bool false, .bool false, .int .i64 0, .string ⟨#[]⟩] 30))
  obtain ⟨cb, hcb⟩ : ∃ cb, w9.heap.size = cb := ⟨_, rfl⟩
  rw [hcb] at HC9
  have hcb2 : ab ≤ cb := by omega
  clear hr9 hg9 hr9' ho9 HO7 HA7 HU7 HP7
  go_upto_region 10 with fail
  try rw [hcb]
  have hcz : w9.heap.size < (w9.alloc (.cells #[.int .i64 0, .int .i64 0, .int .i64 0, .int .i64 0, .int .i64 0, .bool false, .bool false, .int .i64 0, .string ⟨#[]⟩] 30)).heap.size := by simp
  clear hcb
  generalize w9.alloc (.cells #[.int .i64 0, .int .i64 0, .int .i64 0, .int .i64 0, .int .i64 0, .bool false, .bool false, .int .i64 0, .string ⟨#[]⟩] 30) = w10 at *
  have h29 := wrap_in (bg + 29)
  have h30 := wrap_in (bg + 30)
  obtain ⟨gs, hgs⟩ : ∃ gs, w10.heap.size = gs := ⟨_, rfl⟩
  have HTS0 := Lib.hid (alloc_new w10 (.cells #[.int .i64 now, .int .i64 bg, .int .i64 (wrap64 (bg + 29)), .int .i64 (wrap64 (bg + 30)), .int .i64 now] 3))
  have HS10 := Lib.hid (HS9.out.below ((Below.refl _ _).alloc (Nat.le_refl _) (.cells #[.int .i64 now, .int .i64 bg, .int .i64 (wrap64 (bg + 29)), .int .i64 (wrap64 (bg + 30)), .int .i64 now] 3)))
  have HA10 := Lib.hid (block_alloc HA9.out (.cells #[.int .i64 now, .int .i64 bg, .int .i64 (wrap64 (bg + 29)), .int .i64 (wrap64 (bg + 30)), .int .i64 now] 3))
  have HC10 := Lib.hid (block_alloc HC9.out (.cells #[.int .i64 now, .int .i64 bg, .int .i64 (wrap64 (bg + 29)), .int .i64 (wrap64 (bg + 30)), .int .i64 now] 3))
  rw [hgs] at HTS0
  have hgs2 : cb ≤ gs := by have := blk_lt HC9.out; omega
  have HGS := Lib.hid hgs
  clear HS9 HA9 HC9 hgs hcz
  go_upto_region 11 with fail
  rw [HGS.out]
  clear HGS
  generalize w10.alloc (.cells #[.int .i64 now, .int .i64 bg, .int .i64 (wrap64 (bg + 29)), .int .i64 (wrap64 (bg + 30)), .int .i64 now] 3) = w11 at *
  have HTS : Hid (∃ ts : List Int, ts.length = 5 ∧ (∀ n ∈ ts, In64 n) ∧ w11.heap[gs]? = some (.cells (ts.map (Value.int .i64)).toArray 3 (0, 0))) := Lib.hid ⟨[now, bg, wrap64 (bg + 29), wrap64 (bg + 30), now], rfl, by
    intro n hn
    simp only [List.mem_cons, List.not_mem_nil, or_false] at hn
    have h1 := HNOW.out; have h2 := HBG.out
    rcases hn with rfl | rfl | rfl | rfl | rfl <;> assumption, HTS0.out⟩
  clear HTS0 h29 h30
  obtain ⟨ts, hts1, hts2, hts3⟩ := HTS.out
  clear HTS
  have HT2 := Lib.hid hts2; have HT3 := Lib.hid hts3
  clear hts2 hts3
  go_loopw [52] (fun i wr => ∃ (k : Nat) (al : Bool), k ≤ 5 ∧ i = .int .i64 (k : Int) ∧ S10 w ab T U P bg al al wr ∧ wr.heap[gs]? = some (.cells (ts.map (Value.int .i64)).toArray 3 (0, 0)) ∧ wr.heap[ab]? = some (.cells #[.int .i64 0, .int .i64 0, .int .i64 0, .int .i64 0, .int .i64 0, .bool false, .bool false, .int .i64 0, .string ⟨#[]⟩] 30) ∧ wr.heap[cb]? = some (.cells #[.int .i64 0, .int .i64 0, .int .i64 0, .int .i64 0, .int .i64 0, .bool false, .bool false, .int .i64 0, .string ⟨#[]⟩] 30)) (fun i _ => 5 - (Go.RowKit.intOf i).toNat)
  case atStart => exact ⟨0, true, by omega, rfl, HS10.out, HT3.out, HA10.out, HC10.out⟩
  case round =>
    clear HS10 HT3 HA10 HC10
    obtain ⟨k, al, hk, rfl, hs, ht, ha, hc⟩ := hrel
    have HS := Lib.hid hs; have HT := Lib.hid ht; have HA := Lib.hid ha; have HC := Lib.hid hc
    clear hs ht ha hc
    obtain ⟨wr0, rfl⟩ : ∃ wo : World, wo = wr := ⟨_, rfl⟩
    by_cases hlt : k < 5
    · have d1 : decide ((k : Int) < 5) = true := decide_eq_true (by omega)
      have k0 : (0 : Int) ≤ (k : Int) := by omega
      have k1 : (k : Int) < 5 := by omega
      obtain ⟨n, hn⟩ : ∃ n, ts[k]? = some n := ⟨_, List.getElem?_eq_getElem (by omega)⟩
      have hn64 := HT2.out n (List.mem_of_getElem? hn)
      have qt := (cell_of_block (k := k) (v := .int .i64 n) HT.out (by rw [List.getElem?_toArray, List.getElem?_map, hn]; rfl)).1
      have HN := Lib.hid hn64
      clear hn hn64
      go_upto_region 13 with fail
      go_cut [69] (fun s wx => s = .bool false ∧ ∃ al, S10 w ab T U P bg al al wx ∧ wx.heap[gs]? = some (.cells (ts.map (Value.int .i64)).toArray 3 (0, 0)) ∧ wx.heap[ab]? = some (.cells #[.int .i64 0, .int .i64 0, .int .i64 0, .int .i64 0, .int .i64 0, .bool false, .bool false, .int .i64 0, .string ⟨#[]⟩] 30) ∧ wx.heap[cb]? = some (.cells #[.int .i64 0, .int .i64 0, .int .i64 0, .int .i64 0, .int .i64 0, .bool false, .bool false, .int .i64 0, .string ⟨#[]⟩] 30))
      case first =>
        clear qt
        go_wp2_with fail
        refine (HS.out.t HN.out).mono ?_
        rintro x v1 ⟨⟨B1, c1, rfl, hr1⟩, hs1, hk1⟩
        have HS1 := Lib.hid hs1; have HR1 := Lib.hid hr1
        have ul := HS.out.ul
        have HT1 := Lib.hid ((hk1 gs (.inr (by omega)) (blk_lt HT.out)).trans HT.out); have HA1 := Lib.hid ((hk1 ab (.inr (by omega)) (blk_lt HA.out)).trans HA.out); have HC1 := Lib.hid ((hk1 cb (.inr (by omega)) (blk_lt HC.out)).trans HC.out)
        have hzz := blk_lt HA.out
        clear hs1 hr1 hk1
        go_wp2_with fail
        refine (HS1.out.u HN.out HBG.out).mono ?_
        rintro x v2 ⟨⟨B2, c2, rfl, hr2⟩, hs2, hg2⟩
        have HS2 := Lib.hid hs2; have HR2 := Lib.hid hr2
        have hoth : ∀ q, ab ≤ q → q < v1.heap.size → v2.heap[q]? = v1.heap[q]? := fun q h1 h2 => hg2.block q h2 (by simp; omega)
        have HT4 := Lib.hid ((hoth gs (by omega) (blk_lt HT1.out)).trans HT1.out); have HA4 := Lib.hid ((hoth ab (by omega) (blk_lt HA1.out)).trans HA1.out); have HC4 := Lib.hid ((hoth cb (by omega) (blk_lt HC1.out)).trans HC1.out)
        have HR1' := Lib.hid (HR1.out.kept (W' := v2) (fun a e => by
          subst e
          have := HR1.out.bk ⟨a, rfl, rfl⟩
          exact hoth _ (by omega) this.2))
        clear hs2 hr2 hg2 hoth HS1 HR1 HT1 HA1 HC1
        have hsm := same_any _ _ _ _ B1 B2 c1 c2 v2 HR1'.out HR2.out ⟨by have := tl_len (F0 P) (decide (P.off = 0)) al (oldN bg n); omega, by have := tl_len (F0 P) (decide (P.off = 0)) al (oldN bg n); omega⟩
        rw [decide_eq_true rfl] at hsm
        have HSM := Lib.hid hsm
        clear hsm
        go_wp2_with fail
        refine HSM.out.mono ?_
        rintro x v3 ⟨rfl, hb3⟩
        have HS3 := Lib.hid (HS2.out.below hb3); have HT5 := Lib.hid (bblock hb3 HT4.out); have HA5 := Lib.hid (bblock hb3 HA4.out); have HC5 := Lib.hid (bblock hb3 HC4.out)
        clear hb3 HS2 HT4 HA4 HC4 HSM HR1' HR2
        go_wp2_with fail
        refine (HS3.out.sz (by have := HVB.out; omega)).mono ?_
        rintro x v4 ⟨rfl, hb4⟩
        go_wp2_with fail
        go_meet
        exact ⟨rfl, _, HS3.out.below hb4, bblock hb4 HT5.out, bblock hb4 HA5.out, bblock hb4 HC5.out⟩
      case rest =>
        obtain ⟨rfl, al', hs, ht, ha, hc⟩ := hcut
        have HS6 := Lib.hid hs; have HT6 := Lib.hid ht; have HA6 := Lib.hid ha; have HC6 := Lib.hid hc
        clear hs ht ha hc qt HS HT HA HC
        go_wp2_with fail
        exact ⟨⟨k + 1, al', by omega, by go_num, HS6.out, HT6.out, HA6.out, HC6.out⟩, by simp [Go.RowKit.intOf]; omega⟩
    · have d1 : decide ((k : Int) < 5) = false := decide_eq_false (by omega)
      have qA0 := (cell_of_block (k := 0) HA.out rfl).1; have qA1 := (cell_of_block (k := 1) HA.out rfl).1; have qA2 := (cell_of_block (k := 2) HA.out rfl).1; have qA3 := (cell_of_block (k := 3) HA.out rfl).1; have qA4 := (cell_of_block (k := 4) HA.out rfl).1; have qA5 := (cell_of_block (k := 5) HA.out rfl).1; have qA6 := (cell_of_block (k := 6) HA.out rfl).1; have qA7 := (cell_of_block (k := 7) HA.out rfl).1; have qA8 := (cell_of_block (k := 8) HA.out rfl).1
      have qC0 := (cell_of_block (k := 0) HC.out rfl).1; have qC1 := (cell_of_block (k := 1) HC.out rfl).1; have qC2 := (cell_of_block (k := 2) HC.out rfl).1; have qC3 := (cell_of_block (k := 3) HC.out rfl).1; have qC4 := (cell_of_block (k := 4) HC.out rfl).1; have qC5 := (cell_of_block (k := 5) HC.out rfl).1; have qC6 := (cell_of_block (k := 6) HC.out rfl).1; have qC7 := (cell_of_block (k := 7) HC.out rfl).1; have qC8 := (cell_of_block (k := 8) HC.out rfl).1
      have heq := eqPk pk0 pk0
      rw [(pkEqB_iff pk0 pk0).2 rfl] at heq
      unfold pk0 at heq
      have hbe := HS.out.one.bel
      have HBE := Lib.hid hbe
      clear hbe
      go_wp2_with fail
      go_ret
      exact ⟨rfl, HBE.out⟩
theorem expiry_law' (a0 a1 a2 : Int) (mo : Bool) (a4 bg now : Int) (w : World) (h0 : 0 ≤ a0 ∧ a0 ≤ 255) (h1 : 0 ≤ a1 ∧ a1 ≤ 255) (h2 : 0 ≤ a2 ∧ a2 ≤ 255) (h3 : 0 ≤ a4 ∧ a4 ≤ 255) (hbg : In64 bg) (hnow : In64 now) :
    Calls Try.prog 3 #[.agg #[.int .u8 a0, .int .u8 a1, .int .u8 a2, .bool mo, .int .u8 a4], .int .i64 bg, .int .i64 now] w fun x w' => x = .returned (.bool true) ∧ Below w.heap.size w w' := by
  obtain ⟨b0, rfl⟩ := Int.eq_ofNat_of_zero_le h0.1
  obtain ⟨b1, rfl⟩ := Int.eq_ofNat_of_zero_le h1.1
  obtain ⟨b2, rfl⟩ := Int.eq_ofNat_of_zero_le h2.1
  obtain ⟨b4, rfl⟩ := Int.eq_ofNat_of_zero_le h3.1
  exact expiry_law b0 b1 b2 mo b4 bg now w (by omega) (by omega) (by omega) (by omega) hbg hnow
end Go.Proofs.Ytmeldgnjgogacaa.Re
