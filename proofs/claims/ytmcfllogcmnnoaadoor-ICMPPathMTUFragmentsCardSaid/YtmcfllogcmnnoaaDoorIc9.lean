/-
  The contracts of carriesFailure and NewError of package icmp.
-/
import Derived.Test.YtmcfllogcmnnoaaDoorIc4
import Derived.Test.YtmcfllogcmnnoaaDoorIpPlain
namespace Go.Proofs.YtmcfllogcmnnoaaDoor.Ic
set_option maxRecDepth 100000
open Go.RowKit Go.Proofs.YtmcfllogcmnnoaaDoor.Wire
open Go.Proofs.YtmcfllogcmnnoaaDoor.Ip (Pk VLen vlenB encP)

theorem emp_size0 (s : ByteArray) : s.toList.isEmpty = decide (s.size = 0) := by
  rw [ByteArray.toList_eq, Bool.eq_iff_iff, List.isEmpty_iff_length_eq_zero, decide_eq_true_iff]; rfl
/-- the payload is an error message -/
def carB (p : Pk) : Bool := decide (p.pr = 1) && (decide (0 < p.s.size) && failB ((p.s.data.toList.getD 0 0).toNat : Int))
theorem car_any (p : Pk) (w : World) (hs : p.s.size ≤ 9223372036854775807) : Calls Tryd.prog 51 #[p.val] w fun e w' => e = .returned (.bool (carB p)) ∧ Below w.heap.size w w' := by
  unfold Pk.val carB
  have HB := below_alloc (o := .cells #[.int .i64 p.f, .int .i64 p.t, .int .i64 p.pr, .int .i64 p.ttl, .int .i64 p.id, .bool p.df, .bool p.mf, .int .i64 p.off, .string p.s] 31) (Below.refl w.heap.size w)
  have HP := Lib.hid (alloc_new w (.cells #[.int .i64 p.f, .int .i64 p.t, .int .i64 p.pr, .int .i64 p.ttl, .int .i64 p.id, .bool p.df, .bool p.mf, .int .i64 p.off, .string p.s] 31))
  by_cases h1 : p.pr = 1
  · by_cases h2 : 0 < p.s.size
    · have HF := Lib.hid fun W => isFailure_any ((p.s[0]).toNat : Int) W
      have HG : Hid (p.s.data.toList.getD 0 0 = p.s[0]) := Lib.hid (getD_lt p.s 0 h2)
      have h1b : (p.pr == 1) = true := beq_iff_eq.2 h1
      rw [HG.out, decide_eq_true h1, decide_eq_true h2]
      clear h1
      generalize failB ((p.s[0]).toNat : Int) = fb at *
      have hb1 := u8_bd p.s[0]
      have h0 : (0 : Int) ≤ ((p.s[0]).toNat : Int) := by omega
      have h3 : (0 : Int) < (p.s.size : Int) := by omega
      have h4 : p.s.toList.isEmpty = false := by rw [emp_size0]; exact decide_eq_false (by omega)
      go_enter Tryd.func51, Tryd.ntmps51
      go_wp2_with (go_at_call 43; (with_reducible refine (HF.out _).mono ?_); rintro e w1 ⟨rfl, hb⟩)
      go_ret
      exact ⟨rfl, below_call HB hb⟩
    · have h4 : p.s.toList.isEmpty = true := by rw [emp_size0]; exact decide_eq_true (by omega)
      have h1b : (p.pr == 1) = true := beq_iff_eq.2 h1
      rw [decide_eq_true h1, decide_eq_false h2]
      clear h2 h1
      go_enter Tryd.func51, Tryd.ntmps51
      go_wp2_with fail
      go_ret
      exact ⟨rfl, HB⟩
  · have h4 : (p.pr == 1) = false := beq_eq_false_iff_ne.2 h1
    rw [decide_eq_false h1]
    clear h1
    go_enter Tryd.func51, Tryd.ntmps51
    go_wp2_with fail
    go_ret
    exact ⟨rfl, HB⟩
/-- the quotation -/
def quoteP (p : Pk) : ByteArray := (⟨(encP p).toArray⟩ : ByteArray).extract 0 (min 28 (encP p).length)
def neOk (k c n : Int) (p : Pk) : Prop := p.ok ∧ p.off = 0 ∧ p.t ≠ 4294967295 ∧ carB p = false ∧ failB k = true ∧ MOk k c n (quoteP p).size
instance (k c n : Int) (p : Pk) : Decidable (neOk k c n p) := by unfold neOk Pk.ok; exact inferInstance
def neV (k c n : Int) (p : Pk) : Value := .agg #[.int .i64 k, .int .i64 c, .int .i64 n, .string (quoteP p)]
def NePost (k c n : Int) (p : Pk) (w : World) (e : Ending) (w' : World) : Prop := ((neOk k c n p ∧ e = .returned (.tuple #[neV k c n p, .bool true])) ∨ (¬ neOk k c n p ∧ e = .returned (.tuple #[.agg #[.int .i64 0, .int .i64 0, .int .i64 0, .string ⟨#[]⟩], .bool false]))) ∧ Below w.heap.size w w'
theorem infoMsg9 : (Tryd.prog.info? 23).map (·.size) = some 4 := by kernel_rfl
theorem quoteP_size (p : Pk) : (quoteP p).size = min 28 (20 + p.s.size) := by
  unfold quoteP
  rw [ByteArray.size_extract, sz, Ip.encP_length]; omega
set_option maxHeartbeats 4000000 in
theorem newError_any (k c n : Int) (p : Pk) (w : World) (hs : p.s.size ≤ 9223372036854775807) :
    Calls Tryd.prog 24 #[.int .i64 k, .int .i64 c, .int .i64 n, p.val] w (NePost k c n p w) := by
  have HVV := Lib.hid fun W => Ip.valid_any p.f p.t p.pr p.ttl p.id p.df p.mf p.off p.s W hs
  have HCC := Lib.hid fun W => car_any p W hs
  unfold Ip.pkV at HVV
  unfold Pk.val at HCC ⊢
  have HP := Lib.hid (block_alloc (alloc_new w (.cells #[.int .i64 p.f, .int .i64 p.t, .int .i64 p.pr, .int .i64 p.ttl, .int .i64 p.id, .bool p.df, .bool p.mf, .int .i64 p.off, .string p.s] 31)) (.cells #[.int .i64 0, .int .i64 0, .int .i64 0, .string ⟨#[]⟩] 23))
  have HR := Lib.hid (alloc_new' (w.alloc (.cells #[.int .i64 p.f, .int .i64 p.t, .int .i64 p.pr, .int .i64 p.ttl, .int .i64 p.id, .bool p.df, .bool p.mf, .int .i64 p.off, .string p.s] 31)) (.cells #[.int .i64 0, .int .i64 0, .int .i64 0, .string ⟨#[]⟩] 23) (w.heap.size + 1) (by simp))
  have HB := below_alloc (o := .cells #[.int .i64 0, .int .i64 0, .int .i64 0, .string ⟨#[]⟩] 23) (below_alloc (o := .cells #[.int .i64 p.f, .int .i64 p.t, .int .i64 p.pr, .int .i64 p.ttl, .int .i64 p.id, .bool p.df, .bool p.mf, .int .i64 p.off, .string p.s] 31) (Below.refl w.heap.size w))
  obtain ⟨⟨p0, p1, p2, p3, p4, p5, p6, p7, p8⟩, -⟩ := cells9 HP.out
  by_cases hok : p.ok
  case neg =>
    rw [show vlenB p.f p.t p.pr p.ttl p.id p.df p.mf p.off p.s.size = false from decide_eq_false hok] at HVV
    have HO := Lib.hid hok; clear hok
    go_enter Tryd.func24, Tryd.ntmps24
    go_upto_region 2 with (go_at_call 50; (with_reducible refine (HVV.out _).mono ?_); rintro e w1 ⟨rfl, hb1⟩; obtain ⟨⟨r0, r1, r2, r3, r4, r5, r6, r7, r8⟩, -⟩ := cells9 (bblock hb1 HP.out))
    have HR1 := Lib.hid (bblock hb1 HR.out); have HB1 := below_call HB hb1
    obtain ⟨⟨c0, c1, c2, c3⟩, z0, z1, z2, z3⟩ := cells4 HR1.out
    have lR := blk_lt HR1.out
    go_wp2_with fail
    have HZ := cells_eq (b := #[.int .i64 0, .int .i64 0, .int .i64 0, .string ⟨#[]⟩]) (block_setCell (k := 3) (v := .string ⟨#[]⟩) (block_setCell (k := 2) (v := .int .i64 0) (block_setCell (k := 1) (v := .int .i64 0) (block_setCell (k := 0) (v := .int .i64 0) (HR1.out))))) rfl
    refine bodyPost_ret (v := .tuple #[.agg #[.int .i64 0, .int .i64 0, .int .i64 0, .string ⟨#[]⟩], .bool false]) (res_cell_tmp Tryd.results24 (by exact HZ) rfl Tryd.underlying23 rfl infoMsg9) rfl ⟨.inr ⟨fun q => HO.out q.1, (by rfl)⟩, ?_⟩
    exact Below.setCell (Below.setCell (Below.setCell (Below.setCell (HB1) (by first | (simp; done) | (simp; omega)) _) (by first | (simp; done) | (simp; omega)) _) (by first | (simp; done) | (simp; omega)) _) (by first | (simp; done) | (simp; omega)) _
  rw [show vlenB p.f p.t p.pr p.ttl p.id p.df p.mf p.off p.s.size = true from decide_eq_true hok] at HVV
  have HEN : Hid (∀ W, Calls Tryd.prog 27 #[.agg #[.int .i64 p.f, .int .i64 p.t, .int .i64 p.pr, .int .i64 p.ttl, .int .i64 p.id, .bool p.df, .bool p.mf, .int .i64 p.off, .string p.s]] W fun e w' => e = .returned (.tuple #[.string ⟨(encP p).toArray⟩, .int .i64 0]) ∧ Below W.heap.size W w') := Lib.hid fun W => Ip.Encode_ok p.f p.t p.pr p.ttl p.id p.df p.mf p.off p.s W hok
  have HO := Lib.hid hok; clear hok
  by_cases hoff : p.off = 0
  case neg =>
    have hof : (p.off != 0) = true := by simpa using hoff
    have HF := Lib.hid hoff; clear hoff
    go_enter Tryd.func24, Tryd.ntmps24
    go_upto_region 2 with (go_at_call 50; (with_reducible refine (HVV.out _).mono ?_); rintro e w1 ⟨rfl, hb1⟩; obtain ⟨⟨r0, r1, r2, r3, r4, r5, r6, r7, r8⟩, -⟩ := cells9 (bblock hb1 HP.out))
    have HR1 := Lib.hid (bblock hb1 HR.out); have HB1 := below_call HB hb1
    obtain ⟨⟨c0, c1, c2, c3⟩, z0, z1, z2, z3⟩ := cells4 HR1.out
    have lR := blk_lt HR1.out
    go_wp2_with fail
    have HZ := cells_eq (b := #[.int .i64 0, .int .i64 0, .int .i64 0, .string ⟨#[]⟩]) (block_setCell (k := 3) (v := .string ⟨#[]⟩) (block_setCell (k := 2) (v := .int .i64 0) (block_setCell (k := 1) (v := .int .i64 0) (block_setCell (k := 0) (v := .int .i64 0) (HR1.out))))) rfl
    refine bodyPost_ret (v := .tuple #[.agg #[.int .i64 0, .int .i64 0, .int .i64 0, .string ⟨#[]⟩], .bool false]) (res_cell_tmp Tryd.results24 (by exact HZ) rfl Tryd.underlying23 rfl infoMsg9) rfl ⟨.inr ⟨fun q => HF.out q.2.1, (by rfl)⟩, ?_⟩
    exact Below.setCell (Below.setCell (Below.setCell (Below.setCell (HB1) (by first | (simp; done) | (simp; omega)) _) (by first | (simp; done) | (simp; omega)) _) (by first | (simp; done) | (simp; omega)) _) (by first | (simp; done) | (simp; omega)) _
  have hof : (p.off != 0) = false := by simpa using hoff
  have HF := Lib.hid hoff; clear hoff
  by_cases hto : p.t = 4294967295
  case pos =>
    have hof2 : (p.t == 4294967295) = true := beq_iff_eq.2 hto
    have HT := Lib.hid hto; clear hto
    go_enter Tryd.func24, Tryd.ntmps24
    go_upto_region 2 with (go_at_call 50; (with_reducible refine (HVV.out _).mono ?_); rintro e w1 ⟨rfl, hb1⟩; obtain ⟨⟨r0, r1, r2, r3, r4, r5, r6, r7, r8⟩, -⟩ := cells9 (bblock hb1 HP.out))
    have HR1 := Lib.hid (bblock hb1 HR.out); have HB1 := below_call HB hb1
    obtain ⟨⟨c0, c1, c2, c3⟩, z0, z1, z2, z3⟩ := cells4 HR1.out
    have lR := blk_lt HR1.out
    go_wp2_with fail
    have HZ := cells_eq (b := #[.int .i64 0, .int .i64 0, .int .i64 0, .string ⟨#[]⟩]) (block_setCell (k := 3) (v := .string ⟨#[]⟩) (block_setCell (k := 2) (v := .int .i64 0) (block_setCell (k := 1) (v := .int .i64 0) (block_setCell (k := 0) (v := .int .i64 0) (HR1.out))))) rfl
    refine bodyPost_ret (v := .tuple #[.agg #[.int .i64 0, .int .i64 0, .int .i64 0, .string ⟨#[]⟩], .bool false]) (res_cell_tmp Tryd.results24 (by exact HZ) rfl Tryd.underlying23 rfl infoMsg9) rfl ⟨.inr ⟨fun q => q.2.2.1 HT.out, (by rfl)⟩, ?_⟩
    exact Below.setCell (Below.setCell (Below.setCell (Below.setCell (HB1) (by first | (simp; done) | (simp; omega)) _) (by first | (simp; done) | (simp; omega)) _) (by first | (simp; done) | (simp; omega)) _) (by first | (simp; done) | (simp; omega)) _
  have hof2 : (p.t == 4294967295) = false := beq_eq_false_iff_ne.2 hto
  have HT := Lib.hid hto; clear hto
  cases hca : carB p with
  | true =>
    rw [hca] at HCC
    have HCA := Lib.hid hca; clear hca
    go_enter Tryd.func24, Tryd.ntmps24
    go_upto_region 2 with (first | (go_at_call 51; (with_reducible refine (HCC.out _).mono ?_); rintro e w2 ⟨rfl, hb2⟩; have hb := below_call hb1 hb2; obtain ⟨⟨s0, s1, s2, s3, s4, s5, s6, s7, s8⟩, -⟩ := cells9 (bblock hb HP.out)) | (go_at_call 50; (with_reducible refine (HVV.out _).mono ?_); rintro e w1 ⟨rfl, hb1⟩; obtain ⟨⟨r0, r1, r2, r3, r4, r5, r6, r7, r8⟩, -⟩ := cells9 (bblock hb1 HP.out)))
    have HR1 := Lib.hid (bblock hb HR.out); have HB1 := below_call HB hb
    obtain ⟨⟨c0, c1, c2, c3⟩, z0, z1, z2, z3⟩ := cells4 HR1.out
    have lR := blk_lt HR1.out
    go_wp2_with fail
    have HZ := cells_eq (b := #[.int .i64 0, .int .i64 0, .int .i64 0, .string ⟨#[]⟩]) (block_setCell (k := 3) (v := .string ⟨#[]⟩) (block_setCell (k := 2) (v := .int .i64 0) (block_setCell (k := 1) (v := .int .i64 0) (block_setCell (k := 0) (v := .int .i64 0) (HR1.out))))) rfl
    refine bodyPost_ret (v := .tuple #[.agg #[.int .i64 0, .int .i64 0, .int .i64 0, .string ⟨#[]⟩], .bool false]) (res_cell_tmp Tryd.results24 (by exact HZ) rfl Tryd.underlying23 rfl infoMsg9) rfl ⟨.inr ⟨fun q => (by have q := q.2.2.2.1; rw [HCA.out] at q; cases q), (by rfl)⟩, ?_⟩
    exact Below.setCell (Below.setCell (Below.setCell (Below.setCell (HB1) (by first | (simp; done) | (simp; omega)) _) (by first | (simp; done) | (simp; omega)) _) (by first | (simp; done) | (simp; omega)) _) (by first | (simp; done) | (simp; omega)) _
  | false =>
    rw [hca] at HCC
    have HCA := Lib.hid hca; clear hca
    have HFK := Lib.hid fun W => isFailure_any k W
    have HQS := Lib.hid (quoteP_size p)
    obtain ⟨T, HT0⟩ : ∃ T : ByteArray, Hid (T = ⟨(encP p).toArray⟩) := ⟨_, rfl⟩
    rw [← HT0.out] at HEN
    have HTS : T.size = 20 + p.s.size := by rw [HT0.out, sz, Ip.encP_length]
    have HQE : Hid (T.extract 0 (min 28 (20 + (p.s.size : Int))).toNat = quoteP p) := Lib.hid (by
      have e : (min 28 (20 + (p.s.size : Int))).toNat = min 28 (encP p).length := by rw [Ip.encP_length]; omega
      rw [e, HT0.out]
      unfold quoteP
      exact rfl)
    have HVK := Lib.hid fun W => valid_any k c n (quoteP p) W (by rw [HQS.out]; omega)
    have HSZ : p.s.size ≤ 1000000 := by have := HO.out.2.2.2; obtain ⟨h1, h2, h3⟩ := HO.out.2.2.1; omega
    have hTb : (T.size : Int) ≤ 9223372036854775807 := by omega
    go_enter Tryd.func24, Tryd.ntmps24
    go_upto_region 3 with (first | (go_at_call 51; (with_reducible refine (HCC.out _).mono ?_); rintro e w2 ⟨rfl, hb2⟩; have hb := below_call hb1 hb2; obtain ⟨⟨s0, s1, s2, s3, s4, s5, s6, s7, s8⟩, -⟩ := cells9 (bblock hb HP.out)) | (go_at_call 50; (with_reducible refine (HVV.out _).mono ?_); rintro e w1 ⟨rfl, hb1⟩; obtain ⟨⟨r0, r1, r2, r3, r4, r5, r6, r7, r8⟩, -⟩ := cells9 (bblock hb1 HP.out)))
    go_upto_region 7 with (go_at_call 27; (with_reducible refine (HEN.out _).mono ?_); rintro e w3 ⟨rfl, hb3⟩)
    rw [HQE.out]
    have HD : Hid (neOk k c n p ↔ failB k = true ∧ MOk k c n (quoteP p).size) := Lib.hid ⟨fun q => q.2.2.2.2, fun q => ⟨HO.out, HF.out, HT.out, HCA.out, q⟩⟩
    have HV : Hid (neV k c n p = .agg #[.int .i64 k, .int .i64 c, .int .i64 n, .string (quoteP p)]) := Lib.hid rfl
    generalize quoteP p = Q at *
    have hbm := below_alloc (o := .cells #[.int .i64 k, .int .i64 c, .int .i64 n, .string Q] 23) (below_call hb hb3)
    have HM := Lib.hid (alloc_new w3 (.cells #[.int .i64 k, .int .i64 c, .int .i64 n, .string Q] 23))
    clear p0 p1 p2 p3 p4 p5 p6 p7 p8 r0 r1 r2 r3 r4 r5 r6 r7 r8 s0 s1 s2 s3 s4 s5 s6 s7 s8 hb1 hb2 hb hb3 HTS hTb
    obtain ⟨⟨m0, m1, m2, m3⟩, -⟩ := cells4 HM.out
    cases hfk : failB k with
    | false =>
      rw [hfk] at HFK
      have HFF := Lib.hid hfk; clear hfk
      go_upto_region 8 with (go_at_call 43; (with_reducible refine (HFK.out _).mono ?_); rintro e w4 ⟨rfl, hb4⟩; have hb := below_call hbm hb4)
      have HR1 := Lib.hid (bblock hb HR.out); have HB1 := below_call HB hb
      obtain ⟨⟨c0, c1, c2, c3⟩, z0, z1, z2, z3⟩ := cells4 HR1.out
      have lR := blk_lt HR1.out
      go_wp2_with fail
      have HZ := cells_eq (b := #[.int .i64 0, .int .i64 0, .int .i64 0, .string ⟨#[]⟩]) (block_setCell (k := 3) (v := .string ⟨#[]⟩) (block_setCell (k := 2) (v := .int .i64 0) (block_setCell (k := 1) (v := .int .i64 0) (block_setCell (k := 0) (v := .int .i64 0) (HR1.out))))) rfl
      refine bodyPost_ret (v := .tuple #[.agg #[.int .i64 0, .int .i64 0, .int .i64 0, .string ⟨#[]⟩], .bool false]) (res_cell_tmp Tryd.results24 (by exact HZ) rfl Tryd.underlying23 rfl infoMsg9) rfl ⟨.inr ⟨fun q => (by have q := (HD.out.1 q).1; rw [HFF.out] at q; cases q), (by rfl)⟩, ?_⟩
      exact Below.setCell (Below.setCell (Below.setCell (Below.setCell (HB1) (by first | (simp; done) | (simp; omega)) _) (by first | (simp; done) | (simp; omega)) _) (by first | (simp; done) | (simp; omega)) _) (by first | (simp; done) | (simp; omega)) _
    | true =>
      rw [hfk] at HFK
      have HFF := Lib.hid hfk; clear hfk
      by_cases hmk : MOk k c n Q.size
      · rw [show mokB k c n Q.size = true from decide_eq_true hmk] at HVK
        have HMK := Lib.hid hmk; clear hmk
        go_upto_region 9 with (first | (go_at_call 43; (with_reducible refine (HFK.out _).mono ?_); rintro e w4 ⟨rfl, hb4⟩; have hb5 := below_call hbm hb4; have HM4 := Lib.hid (bblock hb4 HM.out); obtain ⟨⟨t0, t1, t2, t3⟩, -⟩ := cells4 HM4.out) | (go_at_call 20; (with_reducible refine (HVK.out _).mono ?_); rintro e w5 ⟨rfl, hb6⟩; have hb := below_call hb5 hb6; have HM5 := Lib.hid (bblock hb6 HM4.out); obtain ⟨⟨v0, v1, v2, v3⟩, -⟩ := cells4 HM5.out))
        have HR1 := Lib.hid (bblock hb HR.out); have HB1 := below_call HB hb
        obtain ⟨⟨c0, c1, c2, c3⟩, z0, z1, z2, z3⟩ := cells4 HR1.out
        have lR := blk_lt HR1.out
        go_wp2_with fail
        have HZ := cells_eq (b := #[.int .i64 k, .int .i64 c, .int .i64 n, .string Q]) (block_setCell (k := 3) (v := .string Q) (block_setCell (k := 2) (v := .int .i64 n) (block_setCell (k := 1) (v := .int .i64 c) (block_setCell (k := 0) (v := .int .i64 k) (HR1.out))))) rfl
        refine bodyPost_ret (v := .tuple #[.agg #[.int .i64 k, .int .i64 c, .int .i64 n, .string Q], .bool true]) (res_cell_tmp Tryd.results24 (by exact HZ) rfl Tryd.underlying23 rfl infoMsg9) rfl ⟨.inl ⟨HD.out.2 ⟨HFF.out, HMK.out⟩, (by rw [HV.out])⟩, ?_⟩
        exact Below.setCell (Below.setCell (Below.setCell (Below.setCell (HB1) (by first | (simp; done) | (simp; omega)) _) (by first | (simp; done) | (simp; omega)) _) (by first | (simp; done) | (simp; omega)) _) (by first | (simp; done) | (simp; omega)) _
      · rw [show mokB k c n Q.size = false from decide_eq_false hmk] at HVK
        have HMK := Lib.hid hmk; clear hmk
        go_upto_region 8 with (first | (go_at_call 43; (with_reducible refine (HFK.out _).mono ?_); rintro e w4 ⟨rfl, hb4⟩; have hb5 := below_call hbm hb4; have HM4 := Lib.hid (bblock hb4 HM.out); obtain ⟨⟨t0, t1, t2, t3⟩, -⟩ := cells4 HM4.out) | (go_at_call 20; (with_reducible refine (HVK.out _).mono ?_); rintro e w5 ⟨rfl, hb6⟩; have hb := below_call hb5 hb6))
        have HR1 := Lib.hid (bblock hb HR.out); have HB1 := below_call HB hb
        obtain ⟨⟨c0, c1, c2, c3⟩, z0, z1, z2, z3⟩ := cells4 HR1.out
        have lR := blk_lt HR1.out
        go_wp2_with fail
        have HZ := cells_eq (b := #[.int .i64 0, .int .i64 0, .int .i64 0, .string ⟨#[]⟩]) (block_setCell (k := 3) (v := .string ⟨#[]⟩) (block_setCell (k := 2) (v := .int .i64 0) (block_setCell (k := 1) (v := .int .i64 0) (block_setCell (k := 0) (v := .int .i64 0) (HR1.out))))) rfl
        refine bodyPost_ret (v := .tuple #[.agg #[.int .i64 0, .int .i64 0, .int .i64 0, .string ⟨#[]⟩], .bool false]) (res_cell_tmp Tryd.results24 (by exact HZ) rfl Tryd.underlying23 rfl infoMsg9) rfl ⟨.inr ⟨fun q => HMK.out (HD.out.1 q).2, (by rfl)⟩, ?_⟩
        exact Below.setCell (Below.setCell (Below.setCell (Below.setCell (HB1) (by first | (simp; done) | (simp; omega)) _) (by first | (simp; done) | (simp; omega)) _) (by first | (simp; done) | (simp; omega)) _) (by first | (simp; done) | (simp; omega)) _
end Go.Proofs.YtmcfllogcmnnoaaDoor.Ic
