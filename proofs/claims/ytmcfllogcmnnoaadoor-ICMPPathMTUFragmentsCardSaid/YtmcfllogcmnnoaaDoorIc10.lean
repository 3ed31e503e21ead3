/-
  The contract of Quoted of package icmp.
-/
import Derived.Test.YtmcfllogcmnnoaaDoorIc9
namespace Go.Proofs.YtmcfllogcmnnoaaDoor.Ic
set_option maxRecDepth 100000
open Go.RowKit Go.Proofs.YtmcfllogcmnnoaaDoor.Wire
open Go.Proofs.YtmcfllogcmnnoaaDoor.Ip (Pk VLen vlenB encP pkOf pk0 dhOk nAt dfOf mfOf)

def pkS (s : ByteArray) : Pk := { f := nAt s 1 4, t := nAt s 5 4, pr := nAt s 9 1, ttl := nAt s 10 1, id := nAt s 11 2, df := dfOf s, mf := mfOf s, off := 8 * nAt s 14 2, s := s.extract 20 s.size }
theorem pkS_val (s : ByteArray) : pkOf s = (pkS s).val := rfl
def quOk (k c n : Int) (s : ByteArray) : Prop := failB k = true ∧ MOk k c n s.size ∧ dhOk s
def QuPost (k c n : Int) (s : ByteArray) (w : World) (e : Ending) (w' : World) : Prop := ((quOk k c n s ∧ e = .returned (.tuple #[(pkS s).val, .bool true])) ∨ (¬ quOk k c n s ∧ e = .returned (.tuple #[pk0, .bool false]))) ∧ Below w.heap.size w w'
theorem infoPkt9 : (Tryd.prog.info? 31).map (·.size) = some 9 := by kernel_rfl
set_option maxHeartbeats 4000000 in
theorem quoted_any (k c n : Int) (s : ByteArray) (w : World) (hs : s.size ≤ 9223372036854775807) :
    Calls Tryd.prog 18 #[.agg #[.int .i64 k, .int .i64 c, .int .i64 n, .string s]] w (QuPost k c n s w) := by
  have HFK := Lib.hid fun W => isFailure_any k W
  have HVK := Lib.hid fun W => valid_any k c n s W hs
  have HM := Lib.hid (block_alloc (alloc_new w (.cells #[.int .i64 k, .int .i64 c, .int .i64 n, .string s] 23)) (.cells #[.int .i64 0, .int .i64 0, .int .i64 0, .int .i64 0, .int .i64 0, .bool false, .bool false, .int .i64 0, .string ⟨#[]⟩] 31))
  have HR := Lib.hid (alloc_new' (w.alloc (.cells #[.int .i64 k, .int .i64 c, .int .i64 n, .string s] 23)) (.cells #[.int .i64 0, .int .i64 0, .int .i64 0, .int .i64 0, .int .i64 0, .bool false, .bool false, .int .i64 0, .string ⟨#[]⟩] 31) (w.heap.size + 1) (by simp))
  have HB := below_alloc (o := .cells #[.int .i64 0, .int .i64 0, .int .i64 0, .int .i64 0, .int .i64 0, .bool false, .bool false, .int .i64 0, .string ⟨#[]⟩] 31) (below_alloc (o := .cells #[.int .i64 k, .int .i64 c, .int .i64 n, .string s] 23) (Below.refl w.heap.size w))
  obtain ⟨⟨m0, m1, m2, m3⟩, -⟩ := cells4 HM.out
  cases hfk : failB k with
  | false =>
    rw [hfk] at HFK
    have HFF := Lib.hid hfk; clear hfk
    go_enter Tryd.func18, Tryd.ntmps18
    go_upto_region 2 with (go_at_call 43; (with_reducible refine (HFK.out _).mono ?_); rintro e w4 ⟨rfl, hb4⟩; have HM4 := Lib.hid (bblock hb4 HM.out); obtain ⟨⟨t0, t1, t2, t3⟩, -⟩ := cells4 HM4.out)
    have HR1 := Lib.hid (bblock hb4 HR.out); have HB1 := below_call HB hb4
    obtain ⟨⟨c0, c1, c2, c3, c4, c5, c6, c7, c8⟩, z0, z1, z2, z3, z4, z5, z6, z7, z8⟩ := cells9 HR1.out
    have lR := blk_lt HR1.out
    go_wp2_with fail
    have HZ := stN_all [.int .i64 0, .int .i64 0, .int .i64 0, .int .i64 0, .int .i64 0, .bool false, .bool false, .int .i64 0, .string ⟨#[]⟩] HR1.out rfl
    refine bodyPost_ret (v := .tuple #[.agg #[.int .i64 0, .int .i64 0, .int .i64 0, .int .i64 0, .int .i64 0, .bool false, .bool false, .int .i64 0, .string ⟨#[]⟩], .bool false]) (res_cell_tmp Tryd.results18 (by exact HZ) rfl Tryd.underlying31 rfl infoPkt9) rfl ⟨.inr ⟨fun q => (by have q := q.1; rw [HFF.out] at q; cases q), (by rfl)⟩, ?_⟩
    exact stN_below (B := w.heap.size + 1) (by omega) [.int .i64 0, .int .i64 0, .int .i64 0, .int .i64 0, .int .i64 0, .bool false, .bool false, .int .i64 0, .string ⟨#[]⟩] _ 0 HB1
  | true =>
    rw [hfk] at HFK
    have HFF := Lib.hid hfk; clear hfk
    by_cases hmk : MOk k c n s.size
    · rw [show mokB k c n s.size = true from decide_eq_true hmk] at HVK
      have HMK := Lib.hid hmk; clear hmk
      by_cases hdh : dhOk s
      · have HDH := Lib.hid fun W => Ip.DecodeHeader_ok s W hs hdh
        have HDD := Lib.hid hdh; clear hdh
        rw [pkS_val] at HDH
        have HQ : Hid (∃ q, q = pkS s) := Lib.hid ⟨_, rfl⟩
        obtain ⟨p, hp⟩ := HQ.out
        clear HQ
        rw [← hp] at HDH
        have HPP := Lib.hid hp; clear hp
        unfold Pk.val at HDH
        go_enter Tryd.func18, Tryd.ntmps18
        go_upto_region 3 with (first | (go_at_call 43; (with_reducible refine (HFK.out _).mono ?_); rintro e w4 ⟨rfl, hb4⟩; have HM4 := Lib.hid (bblock hb4 HM.out); obtain ⟨⟨t0, t1, t2, t3⟩, -⟩ := cells4 HM4.out) | (go_at_call 20; (with_reducible refine (HVK.out _).mono ?_); rintro e w5 ⟨rfl, hb6⟩; have hb5 := below_call hb4 hb6; have HM5 := Lib.hid (bblock hb6 HM4.out); obtain ⟨⟨v0, v1, v2, v3⟩, -⟩ := cells4 HM5.out))
        go_upto_region 6 with (go_at_call 44; (with_reducible refine (HDH.out _).mono ?_); rintro e w6 ⟨rfl, hb7⟩; have hb := below_call hb5 hb7)
        have hb := below_alloc (o := .cells #[.int .i64 p.f, .int .i64 p.t, .int .i64 p.pr, .int .i64 p.ttl, .int .i64 p.id, .bool p.df, .bool p.mf, .int .i64 p.off, .string p.s] 31) hb
        have HP6 := Lib.hid (alloc_new w6 (.cells #[.int .i64 p.f, .int .i64 p.t, .int .i64 p.pr, .int .i64 p.ttl, .int .i64 p.id, .bool p.df, .bool p.mf, .int .i64 p.off, .string p.s] 31))
        obtain ⟨⟨p0, p1, p2, p3, p4, p5, p6, p7, p8⟩, -⟩ := cells9 HP6.out
        have HR1 := Lib.hid (bblock hb HR.out); have HB1 := below_call HB hb
        obtain ⟨⟨c0, c1, c2, c3, c4, c5, c6, c7, c8⟩, z0, z1, z2, z3, z4, z5, z6, z7, z8⟩ := cells9 HR1.out
        have lR := blk_lt HR1.out
        go_wp2_with fail
        have HZ := stN_all [.int .i64 p.f, .int .i64 p.t, .int .i64 p.pr, .int .i64 p.ttl, .int .i64 p.id, .bool p.df, .bool p.mf, .int .i64 p.off, .string p.s] HR1.out rfl
        refine bodyPost_ret (v := .tuple #[.agg #[.int .i64 p.f, .int .i64 p.t, .int .i64 p.pr, .int .i64 p.ttl, .int .i64 p.id, .bool p.df, .bool p.mf, .int .i64 p.off, .string p.s], .bool true]) (res_cell_tmp Tryd.results18 (by exact HZ) rfl Tryd.underlying31 rfl infoPkt9) rfl ⟨.inl ⟨⟨HFF.out, HMK.out, HDD.out⟩, (by rw [← HPP.out]; rfl)⟩, ?_⟩
        exact stN_below (B := w.heap.size + 1) (by omega) [.int .i64 p.f, .int .i64 p.t, .int .i64 p.pr, .int .i64 p.ttl, .int .i64 p.id, .bool p.df, .bool p.mf, .int .i64 p.off, .string p.s] _ 0 HB1
      · have HDH := Lib.hid fun W => Ip.DecodeHeader_no s W hs hdh
        have HDD := Lib.hid hdh; clear hdh
        unfold pk0 at HDH
        go_enter Tryd.func18, Tryd.ntmps18
        go_upto_region 3 with (first | (go_at_call 43; (with_reducible refine (HFK.out _).mono ?_); rintro e w4 ⟨rfl, hb4⟩; have HM4 := Lib.hid (bblock hb4 HM.out); obtain ⟨⟨t0, t1, t2, t3⟩, -⟩ := cells4 HM4.out) | (go_at_call 20; (with_reducible refine (HVK.out _).mono ?_); rintro e w5 ⟨rfl, hb6⟩; have hb5 := below_call hb4 hb6; have HM5 := Lib.hid (bblock hb6 HM4.out); obtain ⟨⟨v0, v1, v2, v3⟩, -⟩ := cells4 HM5.out))
        go_upto_region 5 with (go_at_call 44; (with_reducible refine (HDH.out _).mono ?_); rintro e w6 ⟨rfl, hb7⟩; have hb := below_call hb5 hb7)
        have hb := below_alloc (o := .cells #[.int .i64 0, .int .i64 0, .int .i64 0, .int .i64 0, .int .i64 0, .bool false, .bool false, .int .i64 0, .string ⟨#[]⟩] 31) hb
        have HR1 := Lib.hid (bblock hb HR.out); have HB1 := below_call HB hb
        obtain ⟨⟨c0, c1, c2, c3, c4, c5, c6, c7, c8⟩, z0, z1, z2, z3, z4, z5, z6, z7, z8⟩ := cells9 HR1.out
        have lR := blk_lt HR1.out
        go_wp2_with fail
        have HZ := stN_all [.int .i64 0, .int .i64 0, .int .i64 0, .int .i64 0, .int .i64 0, .bool false, .bool false, .int .i64 0, .string ⟨#[]⟩] HR1.out rfl
        refine bodyPost_ret (v := .tuple #[.agg #[.int .i64 0, .int .i64 0, .int .i64 0, .int .i64 0, .int .i64 0, .bool false, .bool false, .int .i64 0, .string ⟨#[]⟩], .bool false]) (res_cell_tmp Tryd.results18 (by exact HZ) rfl Tryd.underlying31 rfl infoPkt9) rfl ⟨.inr ⟨fun q => HDD.out q.2.2, (by rfl)⟩, ?_⟩
        exact stN_below (B := w.heap.size + 1) (by omega) [.int .i64 0, .int .i64 0, .int .i64 0, .int .i64 0, .int .i64 0, .bool false, .bool false, .int .i64 0, .string ⟨#[]⟩] _ 0 HB1
    · rw [show mokB k c n s.size = false from decide_eq_false hmk] at HVK
      have HMK := Lib.hid hmk; clear hmk
      go_enter Tryd.func18, Tryd.ntmps18
      go_upto_region 2 with (first | (go_at_call 43; (with_reducible refine (HFK.out _).mono ?_); rintro e w4 ⟨rfl, hb4⟩; have HM4 := Lib.hid (bblock hb4 HM.out); obtain ⟨⟨t0, t1, t2, t3⟩, -⟩ := cells4 HM4.out) | (go_at_call 20; (with_reducible refine (HVK.out _).mono ?_); rintro e w5 ⟨rfl, hb6⟩; have hb5 := below_call hb4 hb6; have HM5 := Lib.hid (bblock hb6 HM4.out); obtain ⟨⟨v0, v1, v2, v3⟩, -⟩ := cells4 HM5.out))
      have HR1 := Lib.hid (bblock hb5 HR.out); have HB1 := below_call HB hb5
      obtain ⟨⟨c0, c1, c2, c3, c4, c5, c6, c7, c8⟩, z0, z1, z2, z3, z4, z5, z6, z7, z8⟩ := cells9 HR1.out
      have lR := blk_lt HR1.out
      go_wp2_with fail
      have HZ := stN_all [.int .i64 0, .int .i64 0, .int .i64 0, .int .i64 0, .int .i64 0, .bool false, .bool false, .int .i64 0, .string ⟨#[]⟩] HR1.out rfl
      refine bodyPost_ret (v := .tuple #[.agg #[.int .i64 0, .int .i64 0, .int .i64 0, .int .i64 0, .int .i64 0, .bool false, .bool false, .int .i64 0, .string ⟨#[]⟩], .bool false]) (res_cell_tmp Tryd.results18 (by exact HZ) rfl Tryd.underlying31 rfl infoPkt9) rfl ⟨.inr ⟨fun q => HMK.out q.2.1, (by rfl)⟩, ?_⟩
      exact stN_below (B := w.heap.size + 1) (by omega) [.int .i64 0, .int .i64 0, .int .i64 0, .int .i64 0, .int .i64 0, .bool false, .bool false, .int .i64 0, .string ⟨#[]⟩] _ 0 HB1
end Go.Proofs.YtmcfllogcmnnoaaDoor.Ic
