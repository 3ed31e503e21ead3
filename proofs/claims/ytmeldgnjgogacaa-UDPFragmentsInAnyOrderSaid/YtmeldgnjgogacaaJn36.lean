/-
  The walk of the law UDPFragmentsInAnyOrder.
-/
import Derived.Test.YtmeldgnjgogacaaJnBase
namespace Go.Proofs.Ytmeldgnjgogacaa.Re
set_option maxRecDepth 100000
open Go.RowKit Go.Proofs.Ytmeldgnjgogacaa.Wire
open Go.Proofs.Ytmeldgnjgogacaa.Ip (Pk pieceAt count frags count_lt frags_length)
open Go.Proofs.Ytmeldgnjgogacaa.Udp (decOk)

theorem eqUd (a b : Int) (s : ByteArray) : ∀ w : World, (Op.equalIn 10000 63 (.agg #[.int .i64 a, .int .i64 b, .string s]) (.agg #[.int .i64 a, .int .i64 b, .string s])).run Try.prog w = .ok true w := by
  intro w
  go_simp
/-- the table beside the packet and the list, all made since w -/
structure J36 (w : World) (T pb : Nat) (p : Pk) (D : Option Addr) (d : Nat) (all : List Pk) (A : List (Ky × Hf)) (W : World) : Prop where
  one : OneT w T A (fun q => q = pb ∨ BK D q) W
  pk : W.heap[pb]? = some (.cells #[.int .i64 p.f, .int .i64 p.t, .int .i64 p.pr, .int .i64 p.ttl, .int .i64 p.id, .bool p.df, .bool p.mf, .int .i64 p.off, .string p.s] 30)
  row : PRow W w.heap.size D d all
section
variable {w W W' : World} {T pb : Nat} {p : Pk} {D : Option Addr} {d : Nat} {all : List Pk} {A A' : List (Ky × Hf)}
theorem J36.below (h : J36 w T pb p D d all A W) (hb : Below W.heap.size W W') : J36 w T pb p D d all A W' := ⟨h.one.below hb, bblock hb h.pk, h.row.below hb⟩
theorem J36.put (h : J36 w T pb p D d all A W) (now : Int) (P q : Pk) (ok : Bool) (err : Int) (he : putA A now P = (A', q, ok, err)) (hs : P.s.size ≤ 9223372036854775807) (hL : A.length < 8) (hnow : In64 now) :
    Calls Try.prog 16 #[.pointer (some ⟨T, 0, none⟩), .int .i64 now, .agg #[.int .i64 P.f, .int .i64 P.t, .int .i64 P.pr, .int .i64 P.ttl, .int .i64 P.id, .bool P.df, .bool P.mf, .int .i64 P.off, .string P.s]] W fun x w' => x = PutRes q ok err ∧ J36 w T pb p D d all A' w' := by
  refine (h.one.put now P A' q ok err he hs (.inl hL) (by omega) hnow).mono ?_
  rintro x w' ⟨hx, ho, -, hk⟩
  have hp := blk_lt h.pk
  exact ⟨hx, ⟨ho.more (fun q hq => by rcases hq with r | r; (exact .inl ⟨.inl r, by omega⟩); (exact .inl ⟨.inr r, (h.row.bk r).2⟩)), (hk pb (.inl rfl) hp).trans h.pk, h.row.keptK (fun q hq hl => hk q (.inr hq) hl)⟩⟩
end
set_option maxHeartbeats 8000000 in
theorem any36_aux (x0 x1 x2 x3 x4 : Int) (xs : ByteArray) (id size : Int) (A : Option Addr) (nt ct : Nat) (tl : List Int) (p : Pk) (N : Nat) (w : World) (hw : Whole p N) (hA : ArgI w A nt tl) (hn : 2 ≤ (jL p N).length ∧ (jL p N).length ≤ 1000) (hdec : decOk p.f p.t p.s)
    (hP : ∀ W, Calls Try.prog 28 #[.agg #[.int .i64 x0, .int .i64 x1, .int .i64 x2, .int .i64 x3, .int .i64 x4, .string xs], .int .i64 id, .int .i64 size] W fun e w' => (∃ B c, e = .returned (.tuple #[.slice B (jL p N).length c, PkV p]) ∧ PRow w' W.heap.size B c (jL p N)) ∧ Below W.heap.size W w') :
    Calls Try.prog 10 #[.agg #[.int .i64 x0, .int .i64 x1, .int .i64 x2, .int .i64 x3, .int .i64 x4, .string xs], .int .i64 id, .int .i64 size, .slice A nt ct] w fun x w' => x = .returned (.bool true) ∧ Below w.heap.size w w' := by
  have hps := hw.cut.le
  have HDEC := Lib.hid (fun W => Udp.Decode_good p.f p.t p.s W (by omega) hdec)
  obtain ⟨u0, hu0⟩ : ∃ u0, num (bytesAt p.s 0 2) = u0 := ⟨_, rfl⟩
  obtain ⟨u1, hu1⟩ : ∃ u1, num (bytesAt p.s 2 2) = u1 := ⟨_, rfl⟩
  obtain ⟨us, hus⟩ : ∃ us, p.s.extract 8 p.s.size = us := ⟨_, rfl⟩
  rw [hu0, hu1, hus] at HDEC
  have HA := Lib.hid hA; have HW := Lib.hid hw; have HP := Lib.hid hP
  obtain ⟨l, hl⟩ : ∃ l, jL p N = l := ⟨_, rfl⟩
  rw [hl] at hn HP
  have HL := Lib.hid hl
  have HX := Lib.hid (alloc_new w (.cells #[.int .i64 x0, .int .i64 x1, .int .i64 x2, .int .i64 x3, .int .i64 x4, .string xs] 58))
  have HB := Lib.hid (below_alloc (o := .cells #[.int .i64 x0, .int .i64 x1, .int .i64 x2, .int .i64 x3, .int .i64 x4, .string xs] 58) (Below.refl w.heap.size w))
  clear hA hw hP hdec hu0 hu1 hus hl hps
  go_enter Try.func10, Try.ntmps10
  go_upto_region 1 with fail
  generalize w.alloc (.cells #[.int .i64 x0, .int .i64 x1, .int .i64 x2, .int .i64 x3, .int .i64 x4, .string xs] 58) = w0 at *
  go_wp2_with fail
  refine (Udp.sane_any _).mono ?_
  rintro x w1 ⟨rfl, hb1⟩
  have HX1 := Lib.hid (bblock hb1 HX.out); have HB1 := Lib.hid (below_call HB.out hb1)
  clear hb1 HX HB
  have qX10 := (cell_of_block (k := 0) HX1.out rfl).1; have qX11 := (cell_of_block (k := 1) HX1.out rfl).1; have qX12 := (cell_of_block (k := 2) HX1.out rfl).1; have qX13 := (cell_of_block (k := 3) HX1.out rfl).1; have qX14 := (cell_of_block (k := 4) HX1.out rfl).1; have qX15 := (cell_of_block (k := 5) HX1.out rfl).1
  go_wp2_with fail
  refine (HP.out _).mono ?_
  rintro x w2 ⟨⟨B, c, rfl, hrow⟩, hb2⟩
  clear qX10 qX11 qX12 qX13 qX14 qX15
  unfold PkV
  have hz1 := HB1.out.size
  have hz2 := hb2.size
  have HROW := Lib.hid ((prow_mono hrow (show w.heap.size ≤ w1.heap.size from hz1)).below ((Below.refl w2.heap.size w2).alloc (Nat.le_refl _) (.cells #[.int .i64 p.f, .int .i64 p.t, .int .i64 p.pr, .int .i64 p.ttl, .int .i64 p.id, .bool p.df, .bool p.mf, .int .i64 p.off, .string p.s] 30)))
  have HB2 := Lib.hid (below_alloc (o := .cells #[.int .i64 p.f, .int .i64 p.t, .int .i64 p.pr, .int .i64 p.ttl, .int .i64 p.id, .bool p.df, .bool p.mf, .int .i64 p.off, .string p.s] 30) (below_call HB1.out hb2))
  have HPK := Lib.hid (alloc_new w2 (.cells #[.int .i64 p.f, .int .i64 p.t, .int .i64 p.pr, .int .i64 p.ttl, .int .i64 p.id, .bool p.df, .bool p.mf, .int .i64 p.off, .string p.s] 30))
  obtain ⟨pb, hpb⟩ : ∃ pb, w2.heap.size = pb := ⟨_, rfl⟩
  rw [hpb] at HPK
  have hpw : w.heap.size ≤ pb := by omega
  have HPB := Lib.hid hpb
  clear hrow hb2 HB1 HX1 hpb
  go_upto_region 3 with fail
  rw [HPB.out]
  clear HPB
  generalize w2.alloc (.cells #[.int .i64 p.f, .int .i64 p.t, .int .i64 p.pr, .int .i64 p.ttl, .int .i64 p.id, .bool p.df, .bool p.mf, .int .i64 p.off, .string p.s] 30) = w3 at *
  have d2 : decide ((l.length : Int) < 2) = false := decide_eq_false (by omega)
  go_wp2_with fail
  refine (new_tt _).mono ?_
  intro x w4 hx
  obtain ⟨T, rfl, ho, hb4⟩ := OneT.ofNew HB2.out hx
  have HPK4 := Lib.hid (bblock hb4 HPK.out); have HROW4 := Lib.hid (HROW.out.below hb4); have HO4 := Lib.hid ho
  have hpk3 := blk_lt HPK.out
  clear hx ho hb4 HPK HROW HB2
  go_wp2_with fail
  refine (turned_any l w.heap.size B c A nt ct tl w4 HROW4.out ⟨by omega, by omega⟩ (HA.out.below HO4.out.bel)).mono ?_
  rintro x w5 ⟨all, D, d, rfl, hrow5, hall0, hall1, hall2, hb5⟩
  have hz5 := HO4.out.bel.size
  have HJ : Hid (J36 w T pb p D d all [] w5) := Lib.hid ⟨((HO4.out.more (K' := fun q => q < w3.heap.size ∨ w4.heap.size ≤ q) (fun q hq => hq)).below hb5).more (fun q hq => by rcases hq with r | r; (exact .inl (.inl (by omega))); (exact .inl (.inr (hrow5.bk r).1))), bblock hb5 HPK4.out, prow_mono hrow5 hz5⟩
  clear hrow5 hb5 HPK4 HROW4 HO4
  have HALL1 := Lib.hid hall1; have HALL2 := Lib.hid hall2
  have hl1000 := hn.2
  go_wp2_with fail
  go_loopw [13, 15] (fun m i wr => ∃ (k mn : Nat) (once : Bool) (A' : List (Ky × Hf)), k ≤ all.length ∧ mn ≤ k ∧ (once = true → 1 ≤ mn) ∧ m = .int .i64 (mn : Int) ∧ i = .int .i64 (k : Int) ∧ NK A' ∧ (∀ x ∈ A', x.1 = keyOf p) ∧ JP p N all k once A' ∧ J36 w T pb p D d all A' wr) (fun _ i _ => all.length - (Go.RowKit.intOf i).toNat)
  case atStart => exact ⟨0, 0, false, [], Nat.zero_le _, Nat.le_refl _, (fun e => by cases e), rfl, rfl, List.nodup_nil, (fun x hx => by cases hx), JP.start HW.out.cut all, HJ.out⟩
  case round =>
    clear HJ
    obtain ⟨k, mn, once, A', hk, hmn, hon, rfl, rfl, hnk, hkey, hjp, hj⟩ := hrel
    have HNK := Lib.hid hnk; have HKEY := Lib.hid hkey; have HJP := Lib.hid hjp; have HJ := Lib.hid hj; have HON := Lib.hid hon
    clear hnk hkey hjp hj hon
    obtain ⟨wx, rfl⟩ : ∃ wo : World, wo = wr := ⟨_, rfl⟩
    by_cases hlt : k < all.length
    · have d1 : decide ((k : Int) < (all.length : Int)) = true := decide_eq_true (by omega)
      have k0 : (0 : Int) ≤ (k : Int) := by omega
      have k1 : (k : Int) < (all.length : Int) := by omega
      obtain ⟨P, hPk⟩ : ∃ P, all[k]? = some P := ⟨_, List.getElem?_eq_getElem hlt⟩
      obtain ⟨j, hjc, hPj⟩ := frags_mem (show P ∈ frags p N (count p N) from by have := HALL1.out P (List.mem_of_getElem? hPk); rw [← HL.out] at this; exact this)
      obtain ⟨A2, q, ok, hput, hnk2, hjp2, hok, -, hmem2⟩ := HJP.out.put HW.out HNK.out hPk hjc hPj (k : Int)
      have hlenA := nk_one HNK.out HKEY.out
      have hPs : P.s.size ≤ 9223372036854775807 := by
        rw [hPj, piece_sz]
        have := HW.out.cut.le
        omega
      have HPUT := Lib.hid (HJ.out.put (k : Int) P q ok 0 hput hPs (by omega) (by unfold In64; omega))
      have hkey2 : ∀ x ∈ A2, x.1 = keyOf p := fun x hx => (hmem2 x hx).elim (HKEY.out x) (fun e => e)
      have HNK2 := Lib.hid hnk2; have HJP2 := Lib.hid hjp2; have HOK := Lib.hid hok; have HKEY2 := Lib.hid hkey2
      obtain ⟨gd, rfl, -⟩ := HJ.out.row.addr (by omega)
      obtain ⟨c0, c1, c2, c3, c4, c5, c6, c7, c8⟩ := HJ.out.row.cells hPk
      clear hPk hjc hPj hput hPs hnk2 hjp2 hok hkey2 hmem2 hlenA
      go_wp2_with fail
      refine HPUT.out.mono ?_
      rintro x w6 ⟨rfl, hj6⟩
      unfold PutRes PkV
      clear c0 c1 c2 c3 c4 c5 c6 c7 c8 HPUT
      have HJ6 := Lib.hid (hj6.below ((Below.refl _ _).alloc (Nat.le_refl _) (.cells #[.int .i64 q.f, .int .i64 q.t, .int .i64 q.pr, .int .i64 q.ttl, .int .i64 q.id, .bool q.df, .bool q.mf, .int .i64 q.off, .string q.s] 30)))
      have HQ := Lib.hid (alloc_new w6 (.cells #[.int .i64 q.f, .int .i64 q.t, .int .i64 q.pr, .int .i64 q.ttl, .int .i64 q.id, .bool q.df, .bool q.mf, .int .i64 q.off, .string q.s] 30))
      obtain ⟨qb, hqb⟩ : ∃ qb, w6.heap.size = qb := ⟨_, rfl⟩
      rw [hqb] at HQ
      have HQB := Lib.hid hqb
      clear hj6 hqb
      cases ok with
      | false =>
        go_wp2_with fail
        exact ⟨⟨k + 1, mn, once, A2, by omega, by omega, HON.out, by simp, by go_num, HNK2.out, HKEY2.out, by have := HJP2.out; rw [Bool.or_false] at this; exact this, HJ6.out⟩, by simp [Go.RowKit.intOf]; omega⟩
      | true =>
        obtain ⟨hq, hcnt⟩ := HOK.out rfl
        obtain rfl : p = q := hq.symm
        have hll : (l.length : Int) ≤ (k : Int) + 1 := by rw [← HL.out]; unfold jL; rw [frags_length]; omega
        have hkb : (k : Int) + 1 ≤ 2001 := by omega
        have dl : decide ((k : Int) + 1 < (l.length : Int)) = false := decide_eq_false (by omega)
        clear hcnt hq
        go_upto_region 15 with fail
        try rw [HQB.out]
        clear HQB
        generalize w6.alloc (.cells #[.int .i64 p.f, .int .i64 p.t, .int .i64 p.pr, .int .i64 p.ttl, .int .i64 p.id, .bool p.df, .bool p.mf, .int .i64 p.off, .string p.s] 30) = w7 at *
        have qQ0 := (cell_of_block (k := 0) HQ.out rfl).1; have qQ1 := (cell_of_block (k := 1) HQ.out rfl).1; have qQ8 := (cell_of_block (k := 8) HQ.out rfl).1
        go_wp2_with fail
        refine (HDEC.out _).mono ?_
        rintro x w8 ⟨rfl, hb8⟩
        clear qQ0 qQ1 qQ8
        have HJ8 := Lib.hid ((HJ6.out.below hb8).below ((Below.refl _ _).alloc (Nat.le_refl _) (.cells #[.int .i64 u0, .int .i64 u1, .string us] 63)))
        have HQ8 := Lib.hid (block_alloc (bblock hb8 HQ.out) (.cells #[.int .i64 u0, .int .i64 u1, .string us] 63))
        have HU8 := Lib.hid (alloc_new w8 (.cells #[.int .i64 u0, .int .i64 u1, .string us] 63))
        obtain ⟨ub, hub⟩ : ∃ ub, w8.heap.size = ub := ⟨_, rfl⟩
        rw [hub] at HU8
        have HUB := Lib.hid hub
        clear hb8 HJ6 HQ hub
        go_upto_region 16 with fail
        try rw [HUB.out]
        clear HUB
        generalize w8.alloc (.cells #[.int .i64 u0, .int .i64 u1, .string us] 63) = w9 at *
        have HPK9 := Lib.hid HJ8.out.pk
        have qPK90 := (cell_of_block (k := 0) HPK9.out rfl).1; have qPK91 := (cell_of_block (k := 1) HPK9.out rfl).1; have qPK98 := (cell_of_block (k := 8) HPK9.out rfl).1
        go_wp2_with fail
        refine (HDEC.out _).mono ?_
        rintro x w10 ⟨rfl, hb10⟩
        clear qPK90 qPK91 qPK98
        have HJ10 := Lib.hid ((HJ8.out.below hb10).below ((Below.refl _ _).alloc (Nat.le_refl _) (.cells #[.int .i64 u0, .int .i64 u1, .string us] 63)))
        have HQ10 := Lib.hid (block_alloc (bblock hb10 HQ8.out) (.cells #[.int .i64 u0, .int .i64 u1, .string us] 63))
        have HU10 := Lib.hid (block_alloc (bblock hb10 HU8.out) (.cells #[.int .i64 u0, .int .i64 u1, .string us] 63))
        have HV10 := Lib.hid (alloc_new w10 (.cells #[.int .i64 u0, .int .i64 u1, .string us] 63))
        obtain ⟨vb, hvb⟩ : ∃ vb, w10.heap.size = vb := ⟨_, rfl⟩
        rw [hvb] at HV10
        have HVB := Lib.hid hvb
        clear hb10 HJ8 HQ8 HU8 hvb HPK9
        go_upto_region 17 with fail
        try rw [HVB.out]
        clear HVB
        generalize w10.alloc (.cells #[.int .i64 u0, .int .i64 u1, .string us] 63) = w11 at *
        have HPK11 := Lib.hid HJ10.out.pk
        have qPK118 := (cell_of_block (k := 8) HPK11.out rfl).1; have qQ108 := (cell_of_block (k := 8) HQ10.out rfl).1; have qU100 := (cell_of_block (k := 0) HU10.out rfl).1; have qU101 := (cell_of_block (k := 1) HU10.out rfl).1; have qU102 := (cell_of_block (k := 2) HU10.out rfl).1; have qV100 := (cell_of_block (k := 0) HV10.out rfl).1; have qV101 := (cell_of_block (k := 1) HV10.out rfl).1; have qV102 := (cell_of_block (k := 2) HV10.out rfl).1
        have heq := eqUd u0 u1 us
        go_wp2_with fail
        exact ⟨⟨k + 1, mn + 1, true, A2, by omega, by omega, fun _ => by omega, by go_num, by go_num, HNK2.out, HKEY2.out, by have := HJP2.out; rw [Bool.or_true] at this; exact this, HJ10.out⟩, by simp [Go.RowKit.intOf]; omega⟩
    · have hke : k = all.length := by omega
      have hone : once = true := by
        have h := HJP.out
        rw [hke] at h
        exact h.done HW.out (fun j hj => HALL2.out _ (by rw [← HL.out]; exact mem_frags hj))
      have hm1 := HON.out hone
      have d1 : decide ((k : Int) < (all.length : Int)) = false := decide_eq_false (by omega)
      have d3 : decide ((1 : Int) ≤ (mn : Int)) = true := decide_eq_true (by omega)
      have hbel := HJ.out.one.bel
      have HBEL := Lib.hid hbel
      clear hbel hone
      go_wp2_with fail
      go_ret
      exact ⟨rfl, HBEL.out⟩
theorem jL_len (x0 x1 x2 x3 x4 : Int) (xs : ByteArray) (id size : Int) : 2 ≤ (jL (jpk x0 x1 x2 x3 x4 xs id) (jN size)).length ∧ (jL (jpk x0 x1 x2 x3 x4 xs id) (jN size)).length ≤ 1000 := by
  have h1 := (jpk_whole x0 x1 x2 x3 x4 xs id size).cut.m2
  have h2 := jpk_size x0 x1 x2 x3 x4 xs id
  have h3 := jN_bd size
  have h4 : count (jpk x0 x1 x2 x3 x4 xs id) (jN size) ≤ (jpk x0 x1 x2 x3 x4 xs id).s.size + jN size - 1 := Nat.div_le_self _ _
  unfold jL
  rw [frags_length]
  omega
theorem any36_law (x0 x1 x2 x3 x4 : Int) (xs : ByteArray) (id size : Int) (A : Option Addr) (nt ct : Nat) (tl : List Int) (w : World) (h0 : In64' x0) (h1 : In64' x1) (h2 : In64' x2) (h3 : In64' x3) (h4 : In64' x4) (hs : xs.size ≤ 9223372036854775807) (hi : In64' id) (hz : In64' size) (hA : ArgI w A nt tl) :
    Calls Try.prog 10 #[.agg #[.int .i64 x0, .int .i64 x1, .int .i64 x2, .int .i64 x3, .int .i64 x4, .string xs], .int .i64 id, .int .i64 size, .slice A nt ct] w fun x w' => x = .returned (.bool true) ∧ Below w.heap.size w w' :=
  any36_aux x0 x1 x2 x3 x4 xs id size A nt ct tl (jpk x0 x1 x2 x3 x4 xs id) (jN size) w (jpk_whole x0 x1 x2 x3 x4 xs id size) hA (jL_len x0 x1 x2 x3 x4 xs id size) (jpk_dec x0 x1 x2 x3 x4 xs id) (fun W => parts10_any x0 x1 x2 x3 x4 xs id size W h0 h1 h2 h3 h4 hi hz hs)
end Go.Proofs.Ytmeldgnjgogacaa.Re
