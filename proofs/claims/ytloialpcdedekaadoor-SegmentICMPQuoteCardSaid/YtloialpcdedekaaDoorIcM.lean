/-
  ICMP: NewError, Quoted, the plain laws (several texts in one).
-/
import Derived.Test.YtloialpcdedekaaDoorIc4
import Derived.Test.YtloialpcdedekaaDoorIpM
import Derived.Test.YtloialpcdedekaaDoorIc8
import Derived.Test.YtloialpcdedekaaDoorPlain
namespace Go.Proofs.YtloialpcdedekaaDoor.Ic
set_option maxRecDepth 100000
open Go.RowKit Go.Proofs.YtloialpcdedekaaDoor.Wire
open Go.Proofs.YtloialpcdedekaaDoor.Ip (Pk VLen vlenB encP)

theorem emp_size0 (s : ByteArray) : s.toList.isEmpty = decide (s.size = 0) := by
  rw [ByteArray.toList_eq, Bool.eq_iff_iff, List.isEmpty_iff_length_eq_zero, decide_eq_true_iff]; rfl
/-- the payload is an error message -/
def carB (p : Pk) : Bool := decide (p.pr = 1) && (decide (0 < p.s.size) && failB ((p.s.data.toList.getD 0 0).toNat : Int))
theorem car_any (p : Pk) (w : World) (hs : p.s.size ≤ 9223372036854775807) : Calls Tryd.prog 24 #[p.val] w fun e w' => e = .returned (.bool (carB p)) ∧ Below w.heap.size w w' := by
  unfold Pk.val carB
  have HB := below_alloc (o := .cells #[.int .i64 p.f, .int .i64 p.t, .int .i64 p.pr, .int .i64 p.ttl, .int .i64 p.id, .bool p.df, .bool p.mf, .int .i64 p.off, .string p.s] 37) (Below.refl w.heap.size w)
  have HP := Lib.hid (alloc_new w (.cells #[.int .i64 p.f, .int .i64 p.t, .int .i64 p.pr, .int .i64 p.ttl, .int .i64 p.id, .bool p.df, .bool p.mf, .int .i64 p.off, .string p.s] 37))
  by_cases h1 : p.pr = 1
  · by_cases h2 : 0 < p.s.size
    · have HF := Lib.hid fun W => isFailure_any ((p.s[0]).toNat : Int) W
      have HG : Hid (p.s.data.toList.getD 0 0 = p.s[0]) := Lib.hid (getD_lt p.s 0 h2)
      have h1b : (p.pr == 1) = true := beq_iff_eq.2 h1
      rw [HG.out, decide_eq_true h1, decide_eq_true h2]
      clear h1
      generalize failB ((p.s[0]).toNat : Int) = fb at *
      have hb1 := u8_bd p.s[0]
      have h0 : (0 : Int) ≤ ((p.s[0]).toNat : Int) := by omega
      have h3 : (0 : Int) < (p.s.size : Int) := by omega
      have h4 : p.s.toList.isEmpty = false := by rw [emp_size0]; exact decide_eq_false (by omega)
      go_enter Tryd.func24, Tryd.ntmps24
      go_wp2_with (go_at_call 26; (with_reducible refine (HF.out _).mono ?_); rintro e w1 ⟨rfl, hb⟩)
      go_ret
      exact ⟨rfl, below_call HB hb⟩
    · have h4 : p.s.toList.isEmpty = true := by rw [emp_size0]; exact decide_eq_true (by omega)
      have h1b : (p.pr == 1) = true := beq_iff_eq.2 h1
      rw [decide_eq_true h1, decide_eq_false h2]
      clear h2 h1
      go_enter Tryd.func24, Tryd.ntmps24
      go_wp2_with fail
      go_ret
      exact ⟨rfl, HB⟩
  · have h4 : (p.pr == 1) = false := beq_eq_false_iff_ne.2 h1
    rw [decide_eq_false h1]
    clear h1
    go_enter Tryd.func24, Tryd.ntmps24
    go_wp2_with fail
    go_ret
    exact ⟨rfl, HB⟩
/-- the quotation -/
def quoteP (p : Pk) : ByteArray := (⟨(encP p).toArray⟩ : ByteArray).extract 0 (min 28 (encP p).length)
def neOk (k c n : Int) (p : Pk) : Prop := p.ok ∧ p.off = 0 ∧ p.t ≠ 4294967295 ∧ carB p = false ∧ failB k = true ∧ MOk k c n (quoteP p).size
instance (k c n : Int) (p : Pk) : Decidable (neOk k c n p) := by unfold neOk Pk.ok; exact inferInstance
def neV (k c n : Int) (p : Pk) : Value := .agg #[.int .i64 k, .int .i64 c, .int .i64 n, .string (quoteP p)]
def NePost (k c n : Int) (p : Pk) (w : World) (e : Ending) (w' : World) : Prop := ((neOk k c n p ∧ e = .returned (.tuple #[neV k c n p, .bool true])) ∨ (¬ neOk k c n p ∧ e = .returned (.tuple #[.agg #[.int .i64 0, .int .i64 0, .int .i64 0, .string ⟨#[]⟩], .bool false]))) ∧ Below w.heap.size w w'
theorem infoMsg9 : (Tryd.prog.info? 33).map (·.size) = some 4 := by kernel_rfl
theorem quoteP_size (p : Pk) : (quoteP p).size = min 28 (20 + p.s.size) := by
  unfold quoteP
  rw [ByteArray.size_extract, sz, Ip.encP_length]; omega
set_option maxHeartbeats 4000000 in
theorem newError_any (k c n : Int) (p : Pk) (w : World) (hs : p.s.size ≤ 9223372036854775807) :
    Calls Tryd.prog 9 #[.int .i64 k, .int .i64 c, .int .i64 n, p.val] w (NePost k c n p w) := by
  have HVV := Lib.hid fun W => Ip.valid_any p.f p.t p.pr p.ttl p.id p.df p.mf p.off p.s W hs
  have HCC := Lib.hid fun W => car_any p W hs
  unfold Ip.pkV at HVV
  unfold Pk.val at HCC ⊢
  have HP := Lib.hid (block_alloc (alloc_new w (.cells #[.int .i64 p.f, .int .i64 p.t, .int .i64 p.pr, .int .i64 p.ttl, .int .i64 p.id, .bool p.df, .bool p.mf, .int .i64 p.off, .string p.s] 37)) (.cells #[.int .i64 0, .int .i64 0, .int .i64 0, .string ⟨#[]⟩] 33))
  have HR := Lib.hid (alloc_new' (w.alloc (.cells #[.int .i64 p.f, .int .i64 p.t, .int .i64 p.pr, .int .i64 p.ttl, .int .i64 p.id, .bool p.df, .bool p.mf, .int .i64 p.off, .string p.s] 37)) (.cells #[.int .i64 0, .int .i64 0, .int .i64 0, .string ⟨#[]⟩] 33) (w.heap.size + 1) (by simp))
  have HB := below_alloc (o := .cells #[.int .i64 0, .int .i64 0, .int .i64 0, .string ⟨#[]⟩] 33) (below_alloc (o := .cells #[.int .i64 p.f, .int .i64 p.t, .int .i64 p.pr, .int .i64 p.ttl, .int .i64 p.id, .bool p.df, .bool p.mf, .int .i64 p.off, .string p.s] 37) (Below.refl w.heap.size w))
  obtain ⟨⟨p0, p1, p2, p3, p4, p5, p6, p7, p8⟩, -⟩ := cells9 HP.out
  by_cases hok : p.ok
  case neg =>
    rw [show vlenB p.f p.t p.pr p.ttl p.id p.df p.mf p.off p.s.size = false from decide_eq_false hok] at HVV
    have HO := Lib.hid hok; clear hok
    go_enter Tryd.func9, Tryd.ntmps9
    go_upto_region 2 with (go_at_call 23; (with_reducible refine (HVV.out _).mono ?_); rintro e w1 ⟨rfl, hb1⟩; obtain ⟨⟨r0, r1, r2, r3, r4, r5, r6, r7, r8⟩, -⟩ := cells9 (bblock hb1 HP.out))
    have HR1 := Lib.hid (bblock hb1 HR.out); have HB1 := below_call HB hb1
    obtain ⟨⟨c0, c1, c2, c3⟩, z0, z1, z2, z3⟩ := cells4 HR1.out
    have lR := blk_lt HR1.out
    go_wp2_with fail
    have HZ := cells_eq (b := #[.int .i64 0, .int .i64 0, .int .i64 0, .string ⟨#[]⟩]) (block_setCell (k := 3) (v := .string ⟨#[]⟩) (block_setCell (k := 2) (v := .int .i64 0) (block_setCell (k := 1) (v := .int .i64 0) (block_setCell (k := 0) (v := .int .i64 0) (HR1.out))))) rfl
    refine bodyPost_ret (v := .tuple #[.agg #[.int .i64 0, .int .i64 0, .int .i64 0, .string ⟨#[]⟩], .bool false]) (res_cell_tmp Tryd.results9 (by exact HZ) rfl Tryd.underlying33 rfl infoMsg9) rfl ⟨.inr ⟨fun q => HO.out q.1, (by rfl)⟩, ?_⟩
    exact Below.setCell (Below.setCell (Below.setCell (Below.setCell (HB1) (by first | (simp; done) | (simp; omega)) _) (by first | (simp; done) | (simp; omega)) _) (by first | (simp; done) | (simp; omega)) _) (by first | (simp; done) | (simp; omega)) _
  rw [show vlenB p.f p.t p.pr p.ttl p.id p.df p.mf p.off p.s.size = true from decide_eq_true hok] at HVV
  have HEN : Hid (∀ W, Calls Tryd.prog 25 #[.agg #[.int .i64 p.f, .int .i64 p.t, .int .i64 p.pr, .int .i64 p.ttl, .int .i64 p.id, .bool p.df, .bool p.mf, .int .i64 p.off, .string p.s]] W fun e w' => e = .returned (.tuple #[.string ⟨(encP p).toArray⟩, .int .i64 0]) ∧ Below W.heap.size W w') := Lib.hid fun W => Ip.Encode_ok p.f p.t p.pr p.ttl p.id p.df p.mf p.off p.s W hok
  have HO := Lib.hid hok; clear hok
  by_cases hoff : p.off = 0
  case neg =>
    have hof : (p.off != 0) = true := by simpa using hoff
    have HF := Lib.hid hoff; clear hoff
    go_enter Tryd.func9, Tryd.ntmps9
    go_upto_region 2 with (go_at_call 23; (with_reducible refine (HVV.out _).mono ?_); rintro e w1 ⟨rfl, hb1⟩; obtain ⟨⟨r0, r1, r2, r3, r4, r5, r6, r7, r8⟩, -⟩ := cells9 (bblock hb1 HP.out))
    have HR1 := Lib.hid (bblock hb1 HR.out); have HB1 := below_call HB hb1
    obtain ⟨⟨c0, c1, c2, c3⟩, z0, z1, z2, z3⟩ := cells4 HR1.out
    have lR := blk_lt HR1.out
    go_wp2_with fail
    have HZ := cells_eq (b := #[.int .i64 0, .int .i64 0, .int .i64 0, .string ⟨#[]⟩]) (block_setCell (k := 3) (v := .string ⟨#[]⟩) (block_setCell (k := 2) (v := .int .i64 0) (block_setCell (k := 1) (v := .int .i64 0) (block_setCell (k := 0) (v := .int .i64 0) (HR1.out))))) rfl
    refine bodyPost_ret (v := .tuple #[.agg #[.int .i64 0, .int .i64 0, .int .i64 0, .string ⟨#[]⟩], .bool false]) (res_cell_tmp Tryd.results9 (by exact HZ) rfl Tryd.underlying33 rfl infoMsg9) rfl ⟨.inr ⟨fun q => HF.out q.2.1, (by rfl)⟩, ?_⟩
    exact Below.setCell (Below.setCell (Below.setCell (Below.setCell (HB1) (by first | (simp; done) | (simp; omega)) _) (by first | (simp; done) | (simp; omega)) _) (by first | (simp; done) | (simp; omega)) _) (by first | (simp; done) | (simp; omega)) _
  have hof : (p.off != 0) = false := by simpa using hoff
  have HF := Lib.hid hoff; clear hoff
  by_cases hto : p.t = 4294967295
  case pos =>
    have hof2 : (p.t == 4294967295) = true := beq_iff_eq.2 hto
    have HT := Lib.hid hto; clear hto
    go_enter Tryd.func9, Tryd.ntmps9
    go_upto_region 2 with (go_at_call 23; (with_reducible refine (HVV.out _).mono ?_); rintro e w1 ⟨rfl, hb1⟩; obtain ⟨⟨r0, r1, r2, r3, r4, r5, r6, r7, r8⟩, -⟩ := cells9 (bblock hb1 HP.out))
    have HR1 := Lib.hid (bblock hb1 HR.out); have HB1 := below_call HB hb1
    obtain ⟨⟨c0, c1, c2, c3⟩, z0, z1, z2, z3⟩ := cells4 HR1.out
    have lR := blk_lt HR1.out
    go_wp2_with fail
    have HZ := cells_eq (b := #[.int .i64 0, .int .i64 0, .int .i64 0, .string ⟨#[]⟩]) (block_setCell (k := 3) (v := .string ⟨#[]⟩) (block_setCell (k := 2) (v := .int .i64 0) (block_setCell (k := 1) (v := .int .i64 0) (block_setCell (k := 0) (v := .int .i64 0) (HR1.out))))) rfl
    refine bodyPost_ret (v := .tuple #[.agg #[.int .i64 0, .int .i64 0, .int .i64 0, .string ⟨#[]⟩], .bool false]) (res_cell_tmp Tryd.results9 (by exact HZ) rfl Tryd.underlying33 rfl infoMsg9) rfl ⟨.inr ⟨fun q => q.2.2.1 HT.out, (by rfl)⟩, ?_⟩
    exact Below.setCell (Below.setCell (Below.setCell (Below.setCell (HB1) (by first | (simp; done) | (simp; omega)) _) (by first | (simp; done) | (simp; omega)) _) (by first | (simp; done) | (simp; omega)) _) (by first | (simp; done) | (simp; omega)) _
  have hof2 : (p.t == 4294967295) = false := beq_eq_false_iff_ne.2 hto
  have HT := Lib.hid hto; clear hto
  cases hca : carB p with
  | true =>
    rw [hca] at HCC
    have HCA := Lib.hid hca; clear hca
    go_enter Tryd.func9, Tryd.ntmps9
    go_upto_region 2 with (first | (go_at_call 24; (with_reducible refine (HCC.out _).mono ?_); rintro e w2 ⟨rfl, hb2⟩; have hb := below_call hb1 hb2; obtain ⟨⟨s0, s1, s2, s3, s4, s5, s6, s7, s8⟩, -⟩ := cells9 (bblock hb HP.out)) | (go_at_call 23; (with_reducible refine (HVV.out _).mono ?_); rintro e w1 ⟨rfl, hb1⟩; obtain ⟨⟨r0, r1, r2, r3, r4, r5, r6, r7, r8⟩, -⟩ := cells9 (bblock hb1 HP.out)))
    have HR1 := Lib.hid (bblock hb HR.out); have HB1 := below_call HB hb
    obtain ⟨⟨c0, c1, c2, c3⟩, z0, z1, z2, z3⟩ := cells4 HR1.out
    have lR := blk_lt HR1.out
    go_wp2_with fail
    have HZ := cells_eq (b := #[.int .i64 0, .int .i64 0, .int .i64 0, .string ⟨#[]⟩]) (block_setCell (k := 3) (v := .string ⟨#[]⟩) (block_setCell (k := 2) (v := .int .i64 0) (block_setCell (k := 1) (v := .int .i64 0) (block_setCell (k := 0) (v := .int .i64 0) (HR1.out))))) rfl
    refine bodyPost_ret (v := .tuple #[.agg #[.int .i64 0, .int .i64 0, .int .i64 0, .string ⟨#[]⟩], .bool false]) (res_cell_tmp Tryd.results9 (by exact HZ) rfl Tryd.underlying33 rfl infoMsg9) rfl ⟨.inr ⟨fun q => (by have q := q.2.2.2.1; rw [HCA.out] at q; cases q), (by rfl)⟩, ?_⟩
    exact Below.setCell (Below.setCell (Below.setCell (Below.setCell (HB1) (by first | (simp; done) | (simp; omega)) _) (by first | (simp; done) | (simp; omega)) _) (by first | (simp; done) | (simp; omega)) _) (by first | (simp; done) | (simp; omega)) _
  | false =>
    rw [hca] at HCC
    have HCA := Lib.hid hca; clear hca
    have HFK := Lib.hid fun W => isFailure_any k W
    have HQS := Lib.hid (quoteP_size p)
    obtain ⟨T, HT0⟩ : ∃ T : ByteArray, Hid (T = ⟨(encP p).toArray⟩) := ⟨_, rfl⟩
    rw [← HT0.out] at HEN
    have HTS : T.size = 20 + p.s.size := by rw [HT0.out, sz, Ip.encP_length]
    have HQE : Hid (T.extract 0 (min 28 (20 + (p.s.size : Int))).toNat = quoteP p) := Lib.hid (by
      have e : (min 28 (20 + (p.s.size : Int))).toNat = min 28 (encP p).length := by rw [Ip.encP_length]; omega
      rw [e, HT0.out]
      unfold quoteP
      exact rfl)
    have HVK := Lib.hid fun W => valid_any k c n (quoteP p) W (by rw [HQS.out]; omega)
    have HSZ : p.s.size ≤ 1000000 := by have := HO.out.2.2.2; obtain ⟨h1, h2, h3⟩ := HO.out.2.2.1; omega
    have hTb : (T.size : Int) ≤ 9223372036854775807 := by omega
    go_enter Tryd.func9, Tryd.ntmps9
    go_upto_region 3 with (first | (go_at_call 24; (with_reducible refine (HCC.out _).mono ?_); rintro e w2 ⟨rfl, hb2⟩; have hb := below_call hb1 hb2; obtain ⟨⟨s0, s1, s2, s3, s4, s5, s6, s7, s8⟩, -⟩ := cells9 (bblock hb HP.out)) | (go_at_call 23; (with_reducible refine (HVV.out _).mono ?_); rintro e w1 ⟨rfl, hb1⟩; obtain ⟨⟨r0, r1, r2, r3, r4, r5, r6, r7, r8⟩, -⟩ := cells9 (bblock hb1 HP.out)))
    go_upto_region 7 with (go_at_call 25; (with_reducible refine (HEN.out _).mono ?_); rintro e w3 ⟨rfl, hb3⟩)
    rw [HQE.out]
    have HD : Hid (neOk k c n p ↔ failB k = true ∧ MOk k c n (quoteP p).size) := Lib.hid ⟨fun q => q.2.2.2.2, fun q => ⟨HO.out, HF.out, HT.out, HCA.out, q⟩⟩
    have HV : Hid (neV k c n p = .agg #[.int .i64 k, .int .i64 c, .int .i64 n, .string (quoteP p)]) := Lib.hid rfl
    generalize quoteP p = Q at *
    have hbm := below_alloc (o := .cells #[.int .i64 k, .int .i64 c, .int .i64 n, .string Q] 33) (below_call hb hb3)
    have HM := Lib.hid (alloc_new w3 (.cells #[.int .i64 k, .int .i64 c, .int .i64 n, .string Q] 33))
    clear p0 p1 p2 p3 p4 p5 p6 p7 p8 r0 r1 r2 r3 r4 r5 r6 r7 r8 s0 s1 s2 s3 s4 s5 s6 s7 s8 hb1 hb2 hb hb3 HTS hTb
    obtain ⟨⟨m0, m1, m2, m3⟩, -⟩ := cells4 HM.out
    cases hfk : failB k with
    | false =>
      rw [hfk] at HFK
      have HFF := Lib.hid hfk; clear hfk
      go_upto_region 8 with (go_at_call 26; (with_reducible refine (HFK.out _).mono ?_); rintro e w4 ⟨rfl, hb4⟩; have hb := below_call hbm hb4)
      have HR1 := Lib.hid (bblock hb HR.out); have HB1 := below_call HB hb
      obtain ⟨⟨c0, c1, c2, c3⟩, z0, z1, z2, z3⟩ := cells4 HR1.out
      have lR := blk_lt HR1.out
      go_wp2_with fail
      have HZ := cells_eq (b := #[.int .i64 0, .int .i64 0, .int .i64 0, .string ⟨#[]⟩]) (block_setCell (k := 3) (v := .string ⟨#[]⟩) (block_setCell (k := 2) (v := .int .i64 0) (block_setCell (k := 1) (v := .int .i64 0) (block_setCell (k := 0) (v := .int .i64 0) (HR1.out))))) rfl
      refine bodyPost_ret (v := .tuple #[.agg #[.int .i64 0, .int .i64 0, .int .i64 0, .string ⟨#[]⟩], .bool false]) (res_cell_tmp Tryd.results9 (by exact HZ) rfl Tryd.underlying33 rfl infoMsg9) rfl ⟨.inr ⟨fun q => (by have q := (HD.out.1 q).1; rw [HFF.out] at q; cases q), (by rfl)⟩, ?_⟩
      exact Below.setCell (Below.setCell (Below.setCell (Below.setCell (HB1) (by first | (simp; done) | (simp; omega)) _) (by first | (simp; done) | (simp; omega)) _) (by first | (simp; done) | (simp; omega)) _) (by first | (simp; done) | (simp; omega)) _
    | true =>
      rw [hfk] at HFK
      have HFF := Lib.hid hfk; clear hfk
      by_cases hmk : MOk k c n Q.size
      · rw [show mokB k c n Q.size = true from decide_eq_true hmk] at HVK
        have HMK := Lib.hid hmk; clear hmk
        go_upto_region 9 with (first | (go_at_call 26; (with_reducible refine (HFK.out _).mono ?_); rintro e w4 ⟨rfl, hb4⟩; have hb5 := below_call hbm hb4; have HM4 := Lib.hid (bblock hb4 HM.out); obtain ⟨⟨t0, t1, t2, t3⟩, -⟩ := cells4 HM4.out) | (go_at_call 27; (with_reducible refine (HVK.out _).mono ?_); rintro e w5 ⟨rfl, hb6⟩; have hb := below_call hb5 hb6; have HM5 := Lib.hid (bblock hb6 HM4.out); obtain ⟨⟨v0, v1, v2, v3⟩, -⟩ := cells4 HM5.out))
        have HR1 := Lib.hid (bblock hb HR.out); have HB1 := below_call HB hb
        obtain ⟨⟨c0, c1, c2, c3⟩, z0, z1, z2, z3⟩ := cells4 HR1.out
        have lR := blk_lt HR1.out
        go_wp2_with fail
        have HZ := cells_eq (b := #[.int .i64 k, .int .i64 c, .int .i64 n, .string Q]) (block_setCell (k := 3) (v := .string Q) (block_setCell (k := 2) (v := .int .i64 n) (block_setCell (k := 1) (v := .int .i64 c) (block_setCell (k := 0) (v := .int .i64 k) (HR1.out))))) rfl
        refine bodyPost_ret (v := .tuple #[.agg #[.int .i64 k, .int .i64 c, .int .i64 n, .string Q], .bool true]) (res_cell_tmp Tryd.results9 (by exact HZ) rfl Tryd.underlying33 rfl infoMsg9) rfl ⟨.inl ⟨HD.out.2 ⟨HFF.out, HMK.out⟩, (by rw [HV.out])⟩, ?_⟩
        exact Below.setCell (Below.setCell (Below.setCell (Below.setCell (HB1) (by first | (simp; done) | (simp; omega)) _) (by first | (simp; done) | (simp; omega)) _) (by first | (simp; done) | (simp; omega)) _) (by first | (simp; done) | (simp; omega)) _
      · rw [show mokB k c n Q.size = false from decide_eq_false hmk] at HVK
        have HMK := Lib.hid hmk; clear hmk
        go_upto_region 8 with (first | (go_at_call 26; (with_reducible refine (HFK.out _).mono ?_); rintro e w4 ⟨rfl, hb4⟩; have hb5 := below_call hbm hb4; have HM4 := Lib.hid (bblock hb4 HM.out); obtain ⟨⟨t0, t1, t2, t3⟩, -⟩ := cells4 HM4.out) | (go_at_call 27; (with_reducible refine (HVK.out _).mono ?_); rintro e w5 ⟨rfl, hb6⟩; have hb := below_call hb5 hb6))
        have HR1 := Lib.hid (bblock hb HR.out); have HB1 := below_call HB hb
        obtain ⟨⟨c0, c1, c2, c3⟩, z0, z1, z2, z3⟩ := cells4 HR1.out
        have lR := blk_lt HR1.out
        go_wp2_with fail
        have HZ := cells_eq (b := #[.int .i64 0, .int .i64 0, .int .i64 0, .string ⟨#[]⟩]) (block_setCell (k := 3) (v := .string ⟨#[]⟩) (block_setCell (k := 2) (v := .int .i64 0) (block_setCell (k := 1) (v := .int .i64 0) (block_setCell (k := 0) (v := .int .i64 0) (HR1.out))))) rfl
        refine bodyPost_ret (v := .tuple #[.agg #[.int .i64 0, .int .i64 0, .int .i64 0, .string ⟨#[]⟩], .bool false]) (res_cell_tmp Tryd.results9 (by exact HZ) rfl Tryd.underlying33 rfl infoMsg9) rfl ⟨.inr ⟨fun q => HMK.out (HD.out.1 q).2, (by rfl)⟩, ?_⟩
        exact Below.setCell (Below.setCell (Below.setCell (Below.setCell (HB1) (by first | (simp; done) | (simp; omega)) _) (by first | (simp; done) | (simp; omega)) _) (by first | (simp; done) | (simp; omega)) _) (by first | (simp; done) | (simp; omega)) _
end Go.Proofs.YtloialpcdedekaaDoor.Ic

namespace Go.Proofs.YtloialpcdedekaaDoor.Ic
set_option maxRecDepth 100000
open Go.RowKit Go.Proofs.YtloialpcdedekaaDoor.Wire
open Go.Proofs.YtloialpcdedekaaDoor.Ip (Pk VLen vlenB encP pkOf pk0 dhOk nAt dfOf mfOf)

def pkS (s : ByteArray) : Pk := { f := nAt s 1 4, t := nAt s 5 4, pr := nAt s 9 1, ttl := nAt s 10 1, id := nAt s 11 2, df := dfOf s, mf := mfOf s, off := 8 * nAt s 14 2, s := s.extract 20 s.size }
theorem pkS_val (s : ByteArray) : pkOf s = (pkS s).val := rfl
def quOk (k c n : Int) (s : ByteArray) : Prop := failB k = true ∧ MOk k c n s.size ∧ dhOk s
def QuPost (k c n : Int) (s : ByteArray) (w : World) (e : Ending) (w' : World) : Prop := ((quOk k c n s ∧ e = .returned (.tuple #[(pkS s).val, .bool true])) ∨ (¬ quOk k c n s ∧ e = .returned (.tuple #[pk0, .bool false]))) ∧ Below w.heap.size w w'
theorem infoPkt9 : (Tryd.prog.info? 37).map (·.size) = some 9 := by kernel_rfl
set_option maxHeartbeats 4000000 in
theorem quoted_any (k c n : Int) (s : ByteArray) (w : World) (hs : s.size ≤ 9223372036854775807) :
    Calls Tryd.prog 12 #[.agg #[.int .i64 k, .int .i64 c, .int .i64 n, .string s]] w (QuPost k c n s w) := by
  have HFK := Lib.hid fun W => isFailure_any k W
  have HVK := Lib.hid fun W => valid_any k c n s W hs
  have HM := Lib.hid (block_alloc (alloc_new w (.cells #[.int .i64 k, .int .i64 c, .int .i64 n, .string s] 33)) (.cells #[.int .i64 0, .int .i64 0, .int .i64 0, .int .i64 0, .int .i64 0, .bool false, .bool false, .int .i64 0, .string ⟨#[]⟩] 37))
  have HR := Lib.hid (alloc_new' (w.alloc (.cells #[.int .i64 k, .int .i64 c, .int .i64 n, .string s] 33)) (.cells #[.int .i64 0, .int .i64 0, .int .i64 0, .int .i64 0, .int .i64 0, .bool false, .bool false, .int .i64 0, .string ⟨#[]⟩] 37) (w.heap.size + 1) (by simp))
  have HB := below_alloc (o := .cells #[.int .i64 0, .int .i64 0, .int .i64 0, .int .i64 0, .int .i64 0, .bool false, .bool false, .int .i64 0, .string ⟨#[]⟩] 37) (below_alloc (o := .cells #[.int .i64 k, .int .i64 c, .int .i64 n, .string s] 33) (Below.refl w.heap.size w))
  obtain ⟨⟨m0, m1, m2, m3⟩, -⟩ := cells4 HM.out
  cases hfk : failB k with
  | false =>
    rw [hfk] at HFK
    have HFF := Lib.hid hfk; clear hfk
    go_enter Tryd.func12, Tryd.ntmps12
    go_upto_region 2 with (go_at_call 26; (with_reducible refine (HFK.out _).mono ?_); rintro e w4 ⟨rfl, hb4⟩; have HM4 := Lib.hid (bblock hb4 HM.out); obtain ⟨⟨t0, t1, t2, t3⟩, -⟩ := cells4 HM4.out)
    have HR1 := Lib.hid (bblock hb4 HR.out); have HB1 := below_call HB hb4
    obtain ⟨⟨c0, c1, c2, c3, c4, c5, c6, c7, c8⟩, z0, z1, z2, z3, z4, z5, z6, z7, z8⟩ := cells9 HR1.out
    have lR := blk_lt HR1.out
    go_wp2_with fail
    have HZ := stN_all [.int .i64 0, .int .i64 0, .int .i64 0, .int .i64 0, .int .i64 0, .bool false, .bool false, .int .i64 0, .string ⟨#[]⟩] HR1.out rfl
    refine bodyPost_ret (v := .tuple #[.agg #[.int .i64 0, .int .i64 0, .int .i64 0, .int .i64 0, .int .i64 0, .bool false, .bool false, .int .i64 0, .string ⟨#[]⟩], .bool false]) (res_cell_tmp Tryd.results12 (by exact HZ) rfl Tryd.underlying37 rfl infoPkt9) rfl ⟨.inr ⟨fun q => (by have q := q.1; rw [HFF.out] at q; cases q), (by rfl)⟩, ?_⟩
    exact stN_below (B := w.heap.size + 1) (by omega) [.int .i64 0, .int .i64 0, .int .i64 0, .int .i64 0, .int .i64 0, .bool false, .bool false, .int .i64 0, .string ⟨#[]⟩] _ 0 HB1
  | true =>
    rw [hfk] at HFK
    have HFF := Lib.hid hfk; clear hfk
    by_cases hmk : MOk k c n s.size
    · rw [show mokB k c n s.size = true from decide_eq_true hmk] at HVK
      have HMK := Lib.hid hmk; clear hmk
      by_cases hdh : dhOk s
      · have HDH := Lib.hid fun W => Ip.DecodeHeader_ok s W hs hdh
        have HDD := Lib.hid hdh; clear hdh
        rw [pkS_val] at HDH
        have HQ : Hid (∃ q, q = pkS s) := Lib.hid ⟨_, rfl⟩
        obtain ⟨p, hp⟩ := HQ.out
        clear HQ
        rw [← hp] at HDH
        have HPP := Lib.hid hp; clear hp
        unfold Pk.val at HDH
        go_enter Tryd.func12, Tryd.ntmps12
        go_upto_region 3 with (first | (go_at_call 26; (with_reducible refine (HFK.out _).mono ?_); rintro e w4 ⟨rfl, hb4⟩; have HM4 := Lib.hid (bblock hb4 HM.out); obtain ⟨⟨t0, t1, t2, t3⟩, -⟩ := cells4 HM4.out) | (go_at_call 27; (with_reducible refine (HVK.out _).mono ?_); rintro e w5 ⟨rfl, hb6⟩; have hb5 := below_call hb4 hb6; have HM5 := Lib.hid (bblock hb6 HM4.out); obtain ⟨⟨v0, v1, v2, v3⟩, -⟩ := cells4 HM5.out))
        go_upto_region 6 with (go_at_call 31; (with_reducible refine (HDH.out _).mono ?_); rintro e w6 ⟨rfl, hb7⟩; have hb := below_call hb5 hb7)
        have hb := below_alloc (o := .cells #[.int .i64 p.f, .int .i64 p.t, .int .i64 p.pr, .int .i64 p.ttl, .int .i64 p.id, .bool p.df, .bool p.mf, .int .i64 p.off, .string p.s] 37) hb
        have HP6 := Lib.hid (alloc_new w6 (.cells #[.int .i64 p.f, .int .i64 p.t, .int .i64 p.pr, .int .i64 p.ttl, .int .i64 p.id, .bool p.df, .bool p.mf, .int .i64 p.off, .string p.s] 37))
        obtain ⟨⟨p0, p1, p2, p3, p4, p5, p6, p7, p8⟩, -⟩ := cells9 HP6.out
        have HR1 := Lib.hid (bblock hb HR.out); have HB1 := below_call HB hb
        obtain ⟨⟨c0, c1, c2, c3, c4, c5, c6, c7, c8⟩, z0, z1, z2, z3, z4, z5, z6, z7, z8⟩ := cells9 HR1.out
        have lR := blk_lt HR1.out
        go_wp2_with fail
        have HZ := stN_all [.int .i64 p.f, .int .i64 p.t, .int .i64 p.pr, .int .i64 p.ttl, .int .i64 p.id, .bool p.df, .bool p.mf, .int .i64 p.off, .string p.s] HR1.out rfl
        refine bodyPost_ret (v := .tuple #[.agg #[.int .i64 p.f, .int .i64 p.t, .int .i64 p.pr, .int .i64 p.ttl, .int .i64 p.id, .bool p.df, .bool p.mf, .int .i64 p.off, .string p.s], .bool true]) (res_cell_tmp Tryd.results12 (by exact HZ) rfl Tryd.underlying37 rfl infoPkt9) rfl ⟨.inl ⟨⟨HFF.out, HMK.out, HDD.out⟩, (by rw [← HPP.out]; rfl)⟩, ?_⟩
        exact stN_below (B := w.heap.size + 1) (by omega) [.int .i64 p.f, .int .i64 p.t, .int .i64 p.pr, .int .i64 p.ttl, .int .i64 p.id, .bool p.df, .bool p.mf, .int .i64 p.off, .string p.s] _ 0 HB1
      · have HDH := Lib.hid fun W => Ip.DecodeHeader_no s W hs hdh
        have HDD := Lib.hid hdh; clear hdh
        unfold pk0 at HDH
        go_enter Tryd.func12, Tryd.ntmps12
        go_upto_region 3 with (first | (go_at_call 26; (with_reducible refine (HFK.out _).mono ?_); rintro e w4 ⟨rfl, hb4⟩; have HM4 := Lib.hid (bblock hb4 HM.out); obtain ⟨⟨t0, t1, t2, t3⟩, -⟩ := cells4 HM4.out) | (go_at_call 27; (with_reducible refine (HVK.out _).mono ?_); rintro e w5 ⟨rfl, hb6⟩; have hb5 := below_call hb4 hb6; have HM5 := Lib.hid (bblock hb6 HM4.out); obtain ⟨⟨v0, v1, v2, v3⟩, -⟩ := cells4 HM5.out))
        go_upto_region 5 with (go_at_call 31; (with_reducible refine (HDH.out _).mono ?_); rintro e w6 ⟨rfl, hb7⟩; have hb := below_call hb5 hb7)
        have hb := below_alloc (o := .cells #[.int .i64 0, .int .i64 0, .int .i64 0, .int .i64 0, .int .i64 0, .bool false, .bool false, .int .i64 0, .string ⟨#[]⟩] 37) hb
        have HR1 := Lib.hid (bblock hb HR.out); have HB1 := below_call HB hb
        obtain ⟨⟨c0, c1, c2, c3, c4, c5, c6, c7, c8⟩, z0, z1, z2, z3, z4, z5, z6, z7, z8⟩ := cells9 HR1.out
        have lR := blk_lt HR1.out
        go_wp2_with fail
        have HZ := stN_all [.int .i64 0, .int .i64 0, .int .i64 0, .int .i64 0, .int .i64 0, .bool false, .bool false, .int .i64 0, .string ⟨#[]⟩] HR1.out rfl
        refine bodyPost_ret (v := .tuple #[.agg #[.int .i64 0, .int .i64 0, .int .i64 0, .int .i64 0, .int .i64 0, .bool false, .bool false, .int .i64 0, .string ⟨#[]⟩], .bool false]) (res_cell_tmp Tryd.results12 (by exact HZ) rfl Tryd.underlying37 rfl infoPkt9) rfl ⟨.inr ⟨fun q => HDD.out q.2.2, (by rfl)⟩, ?_⟩
        exact stN_below (B := w.heap.size + 1) (by omega) [.int .i64 0, .int .i64 0, .int .i64 0, .int .i64 0, .int .i64 0, .bool false, .bool false, .int .i64 0, .string ⟨#[]⟩] _ 0 HB1
    · rw [show mokB k c n s.size = false from decide_eq_false hmk] at HVK
      have HMK := Lib.hid hmk; clear hmk
      go_enter Tryd.func12, Tryd.ntmps12
      go_upto_region 2 with (first | (go_at_call 26; (with_reducible refine (HFK.out _).mono ?_); rintro e w4 ⟨rfl, hb4⟩; have HM4 := Lib.hid (bblock hb4 HM.out); obtain ⟨⟨t0, t1, t2, t3⟩, -⟩ := cells4 HM4.out) | (go_at_call 27; (with_reducible refine (HVK.out _).mono ?_); rintro e w5 ⟨rfl, hb6⟩; have hb5 := below_call hb4 hb6; have HM5 := Lib.hid (bblock hb6 HM4.out); obtain ⟨⟨v0, v1, v2, v3⟩, -⟩ := cells4 HM5.out))
      have HR1 := Lib.hid (bblock hb5 HR.out); have HB1 := below_call HB hb5
      obtain ⟨⟨c0, c1, c2, c3, c4, c5, c6, c7, c8⟩, z0, z1, z2, z3, z4, z5, z6, z7, z8⟩ := cells9 HR1.out
      have lR := blk_lt HR1.out
      go_wp2_with fail
      have HZ := stN_all [.int .i64 0, .int .i64 0, .int .i64 0, .int .i64 0, .int .i64 0, .bool false, .bool false, .int .i64 0, .string ⟨#[]⟩] HR1.out rfl
      refine bodyPost_ret (v := .tuple #[.agg #[.int .i64 0, .int .i64 0, .int .i64 0, .int .i64 0, .int .i64 0, .bool false, .bool false, .int .i64 0, .string ⟨#[]⟩], .bool false]) (res_cell_tmp Tryd.results12 (by exact HZ) rfl Tryd.underlying37 rfl infoPkt9) rfl ⟨.inr ⟨fun q => HMK.out q.2.1, (by rfl)⟩, ?_⟩
      exact stN_below (B := w.heap.size + 1) (by omega) [.int .i64 0, .int .i64 0, .int .i64 0, .int .i64 0, .int .i64 0, .bool false, .bool false, .int .i64 0, .string ⟨#[]⟩] _ 0 HB1
end Go.Proofs.YtloialpcdedekaaDoor.Ic

namespace Go.Proofs.YtloialpcdedekaaDoor.Ic
set_option maxRecDepth 100000
open Go.RowKit Go.Proofs.YtloialpcdedekaaDoor.Wire
open Go.Proofs.YtloialpcdedekaaDoor.Ip (Pk VLen encP nAt mid_num)

theorem MOk.bd {k c n : Int} {z : Nat} (h : MOk k c n z) : (1 ≤ k ∧ k ≤ 5) ∧ (0 ≤ c ∧ c ≤ 4) ∧ (0 ≤ n ∧ n ≤ 4294967295) ∧ z ≤ 500 := by
  obtain ⟨hk, hs, hm⟩ := h
  refine ⟨hk, ?_, ?_, ?_⟩
  all_goals
    unfold Suits at hs
    unfold mostOf at hm
    split at hs
    · split at hm <;> (try split at hm) <;> omega
    · split at hs
      · split at hm <;> (try split at hm) <;> omega
      · split at hs <;> (split at hm <;> (try split at hm) <;> omega)
theorem mbytes_eq (k c n : Int) (s : ByteArray) (sm : Int) : mbytes k c n s sm = be 1 k ++ (be 1 c ++ (be 2 sm ++ (be 4 n ++ s.data.toList))) := by
  unfold mbytes pes
  simp only [List.flatMap_cons, List.flatMap_nil, List.append_nil, List.append_assoc]
  rfl
theorem mbytes_len (k c n : Int) (s : ByteArray) (sm : Int) : (mbytes k c n s sm).length = 8 + s.size := by
  rw [mbytes_eq]
  simp only [List.length_append, be_length]
  have : s.data.toList.length = s.size := rfl
  omega
theorem menc_len (k c n : Int) (s : ByteArray) : (menc k c n s).length = 8 + s.size := mbytes_len k c n s _
theorem msum_bd (k c n : Int) (s : ByteArray) : 0 ≤ msum k c n s ∧ msum k c n s ≤ 65535 := csum_bd' _
theorem fval_eq (s : ByteArray) : fval s 0 = nAt s 0 1 ∧ fval s 1 = nAt s 1 1 ∧ fval s 3 = nAt s 4 4 := ⟨rfl, rfl, rfl⟩
/-- the fields of an encoding -/
theorem enc_fields (k c n : Int) (s : ByteArray) (h : MOk k c n s.size) :
    fval ⟨(menc k c n s).toArray⟩ 0 = k ∧ fval ⟨(menc k c n s).toArray⟩ 1 = c ∧ fval ⟨(menc k c n s).toArray⟩ 3 = n ∧ tailOf ⟨(menc k c n s).toArray⟩ = s := by
  obtain ⟨h1, h2, h3, h4⟩ := h.bd
  have hm := msum_bd k c n s
  have e : menc k c n s = be 1 k ++ (be 1 c ++ (be 2 (msum k c n s) ++ (be 4 n ++ s.data.toList))) := mbytes_eq _ _ _ _ _
  obtain ⟨f0, f1, f3⟩ := fval_eq ⟨(menc k c n s).toArray⟩
  rw [f0, f1, f3]
  refine ⟨mid_num _ [] _ 0 1 k e rfl (by omega) (by omega), mid_num _ (be 1 k) _ 1 1 c e (be_length _ _) (by omega) (by omega), mid_num _ (be 1 k ++ be 1 c ++ be 2 (msum k c n s)) s.data.toList 4 4 n (by rw [e]; simp only [List.append_assoc]) (by simp [be_length]) (by omega) (by omega), ?_⟩
  unfold tailOf
  apply ByteArray.ext
  apply Array.ext'
  rw [ByteArray.data_extract, sz, menc_len]
  rw [e]
  simp only [List.extract_toArray]
  have l8 : (be 1 k ++ (be 1 c ++ (be 2 (msum k c n s) ++ be 4 n))).length = 8 := by simp [be_length]
  have e2 : be 1 k ++ (be 1 c ++ (be 2 (msum k c n s) ++ (be 4 n ++ s.data.toList))) = (be 1 k ++ (be 1 c ++ (be 2 (msum k c n s) ++ be 4 n))) ++ s.data.toList := by simp only [List.append_assoc]
  rw [e2, List.extract_eq_take_drop, List.drop_append_of_le_length (by omega), List.drop_of_length_le (by omega), List.nil_append, List.take_of_length_le]
  have : s.data.toList.length = s.size := rfl
  omega
theorem enc_dcK (k c n : Int) (s : ByteArray) (h : MOk k c n s.size) : dcK ⟨(menc k c n s).toArray⟩ ∧ dcV ⟨(menc k c n s).toArray⟩ = .agg #[.int .i64 k, .int .i64 c, .int .i64 n, .string s] := by
  obtain ⟨f0, f1, f2, f3⟩ := enc_fields k c n s h
  refine ⟨⟨by rw [sz, menc_len]; omega, ?_, ?_⟩, ?_⟩
  · rw [f0, f1, f2, f3]; exact h
  · rw [f0, f1, f2, f3]
  · unfold dcV; rw [f0, f1, f2, f3]
/-- the words of an encoding -/
theorem menc_ws (k c n : Int) (s : ByteArray) : ws (menc k c n s) % 65535 = 0 := by
  have hm := csum_mod (mbytes k c n s 0)
  have hb := msum_bd k c n s
  have key : ∀ sm : Int, 0 ≤ sm → sm < 65536 → ws (mbytes k c n s sm) = ws (be 1 k ++ be 1 c) + (sm + ws (be 4 n ++ s.data.toList)) := by
    intro sm h0 h1
    rw [mbytes_eq, ← List.append_assoc, ws_append (be 1 k ++ be 1 c) _ (by rw [List.length_append, be_length, be_length]), ws_append (be 2 sm) _ (by rw [be_length]), ws_be2 _ h0 h1]
  unfold menc
  rw [key _ hb.1 (by omega)]
  rw [key 0 (by omega) (by omega)] at hm
  have : csum ⟨(mbytes k c n s 0).toArray⟩ = msum k c n s := rfl
  omega
theorem dcK_ws (s : ByteArray) (h : dcK s) : ws s.data.toList % 65535 = 0 := by
  have := menc_ws (fval s 0) (fval s 1) (fval s 3) (tailOf s)
  have e := congrArg (fun t : ByteArray => t.data.toList) h.2.2
  simp only at e
  rwa [e] at this
/-- one byte changed: refused -/
theorem set_no (l : List UInt8) (h : dcK ⟨l.toArray⟩) (i : Nat) (hi : i < l.length) (v : UInt8) (hv : v ≠ l[i]) : ¬ dcK ⟨(l.set i v).toArray⟩ := by
  intro h'
  have h1 := dcK_ws _ h
  have h2 := dcK_ws _ h'
  simp only at h1 h2
  rw [ws_set l i v hi] at h2
  have b1 := u8_bd v
  have b2 := u8_bd l[i]
  have hne : (v.toNat : Int) ≠ (l[i].toNat : Int) := fun q => hv (UInt8.toNat_inj.1 (Int.ofNat_inj.1 q))
  split at h2 <;> omega
/-- the quotation -/
theorem quoteP_take (p : Pk) : quoteP p = ⟨((encP p).take 28).toArray⟩ := by
  unfold quoteP
  apply ByteArray.ext
  apply Array.ext'
  rw [ByteArray.data_extract]
  simp only [List.extract_toArray, List.extract_eq_take_drop, List.drop_zero, Nat.sub_zero]
  rcases Nat.le_total 28 (encP p).length with q | q
  · rw [Nat.min_eq_left q]
  · rw [Nat.min_eq_right q, List.take_of_length_le (Nat.le_refl _), List.take_of_length_le q]
theorem quote_ok {k c n : Int} {p : Pk} (h : neOk k c n p) : quOk k c n (quoteP p) := by
  refine ⟨h.2.2.2.2.1, h.2.2.2.2.2, ?_⟩
  rw [quoteP_take]
  exact Ip.cut_dhOk p h.1 28 (by omega)
theorem quote_val (p : Pk) (h : p.ok) : (pkS (quoteP p)).val = ({ p with s := ⟨(p.s.data.toList.take 8).toArray⟩ : Pk } : Pk).val := by
  rw [← pkS_val, quoteP_take]
  exact Ip.cut_pkOf p h 28 (by omega)
theorem menc_head (k c n : Int) (s : ByteArray) (h0 : 0 ≤ k) (h1 : k < 256) : ((menc k c n s).getD 0 0).toNat = k.toNat := by
  have e : menc k c n s = be 1 k ++ (be 1 c ++ (be 2 (msum k c n s) ++ (be 4 n ++ s.data.toList))) := mbytes_eq _ _ _ _ _
  have hq : num (be 1 k) = k := num_be 1 k h0 (by omega)
  have hl := be_length 1 k
  rw [e]
  generalize be 1 k = b at *
  match b, hl with
  | [x], _ =>
    simp [num] at hq
    simp
    omega
end Go.Proofs.YtloialpcdedekaaDoor.Ic
