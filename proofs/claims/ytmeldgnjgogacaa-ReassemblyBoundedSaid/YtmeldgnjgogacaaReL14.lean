/-
  The walk of the law ReassemblyBounded.
-/
import Derived.Test.YtmeldgnjgogacaaReEv2
import Derived.Test.YtmeldgnjgogacaaReBound
import Derived.Test.YtmeldgnjgogacaaReOne
namespace Go.Proofs.Ytmeldgnjgogacaa.Re
set_option maxRecDepth 100000
open Go.RowKit Go.Proofs.Ytmeldgnjgogacaa.Wire
open Go.Proofs.Ytmeldgnjgogacaa.Ip (Pk vlenB VLen)

theorem put_restB (T : Nat) (A : List (Ky × Hf)) (S : Nat → Prop) (now : Int) (p : Pk) (w : World) (h : TT w T A S) (hv : vldB p = true) (hm : p.mf = true) (hs : p.s.size ≤ 9223372036854775807) (hL : A.length ≤ 8) (hk : ∀ y ∈ A, y.1 ≠ keyOf p) (hnow : In64 now) :
    Calls Try.prog 16 #[.pointer (some ⟨T, 0, none⟩), .int .i64 now, .agg #[.int .i64 p.f, .int .i64 p.t, .int .i64 p.pr, .int .i64 p.ttl, .int .i64 p.id, .bool p.df, .bool p.mf, .int .i64 p.off, .string p.s]] w (PutW S w T (putA (restB A) now p)) := by
  unfold restB
  by_cases h8 : A.length = 8
  · rw [if_pos h8]
    exact put_full T A S now p w h hv (.inl hm) hs h8 (fun q => by obtain ⟨y, hy, e⟩ := List.mem_map.1 q; exact hk y hy e) hnow
  · rw [if_neg h8]
    exact put_any T A S now p w h hs (.inl (by omega)) (by omega) hnow
theorem OneT.putB {w W : World} {T : Nat} {A : List (Ky × Hf)} {K : Nat → Prop} (h : OneT w T A K W) (now : Int) (p : Pk) (A' : List (Ky × Hf)) (q : Pk) (ok : Bool) (err : Int) (he : putA (restB A) now p = (A', q, ok, err)) (hv : vldB p = true) (hm : p.mf = true) (hs : p.s.size ≤ 9223372036854775807) (hL : A.length ≤ 8) (hk : ∀ y ∈ A, y.1 ≠ keyOf p) (hnow : In64 now) :
    Calls Try.prog 16 #[.pointer (some ⟨T, 0, none⟩), .int .i64 now, .agg #[.int .i64 p.f, .int .i64 p.t, .int .i64 p.pr, .int .i64 p.ttl, .int .i64 p.id, .bool p.df, .bool p.mf, .int .i64 p.off, .string p.s]] W fun x w' => x = PutRes q ok err ∧ OneT w T A' (fun k => K k ∧ k < W.heap.size) w' := by
  obtain ⟨S, h1, h2⟩ := h.ex
  refine (put_restB T A S now p W h1 hv hm hs hL hk hnow).mono ?_
  rintro x w' ⟨hx, S', t', hc, hn⟩
  rw [he] at hx t'
  have hz := h.bel.size
  refine ⟨hx, ⟨S', t', fun q hq => ?_⟩, ?_⟩
  · rcases hn q hq with r | r
    · exact ⟨(h2 q r).1, fun s => (h2 q r).2 s.1⟩
    · exact ⟨by omega, fun s => by omega⟩
  · exact ⟨hc.os.trans h.bel.os, hc.tape.trans h.bel.tape, hc.output.trans h.bel.output, Nat.le_trans hz hc.size, fun k hk => (hc.block k (by omega) (fun r => by have := (h2 k r).1; omega)).trans (h.bel.block k hk)⟩
set_option maxHeartbeats 8000000 in
theorem bound_law (A : Option Addr) (n c : Nat) (l : List Prw) (w : World) (hA : ArgP w A n l) :
    Calls Try.prog 7 #[.slice A n c] w fun x w' => x = .returned (.bool true) ∧ Below w.heap.size w w' := by
  have HA := Lib.hid hA
  have hn := hA.size
  clear hA
  go_enter Try.func7, Try.ntmps7
  go_wp2_with fail
  refine (examples_any _).mono ?_
  rintro x w1 ⟨rfl, hb1⟩
  have HB1 := Lib.hid hb1; clear hb1
  go_wp2_with fail
  refine (new_tt _).mono ?_
  intro x w2 hx
  obtain ⟨T, rfl, ho, -⟩ := OneT.ofNew HB1.out hx
  have HR : Hid (OneT w T [] (fun _ => False) w2) := Lib.hid (ho.more (fun q hq => hq.elim))
  clear ho hx
  go_wp2_with fail
  go_loopw [5] (fun i wr => ∃ (k : Nat) (A1 : List (Ky × Hf)), k ≤ n ∧ k ≤ 60 ∧ i = .int .i64 (k : Int) ∧ StB k A1 ∧ OneT w T A1 (fun _ => False) wr) (fun i _ => 60 - (Go.RowKit.intOf i).toNat)
  case atStart => exact ⟨0, [], by omega, by omega, rfl, stB_start, HR.out⟩
  case round =>
    clear HR
    obtain ⟨k, A1, hkn, hk60, rfl, hst, hR⟩ := hrel
    have HR := Lib.hid hR; have HST := Lib.hid hst; clear hR hst
    have k1 : (0 : Int) ≤ (k : Int) := by omega
    have hA8 : A1.length ≤ 8 := by have := HST.out.len; omega
    by_cases hlt : k < n ∧ k < 60
    · obtain ⟨b, o, x, rfl, hx, hbl, hok, c0, c1, c2, c3, c4⟩ := (HA.out.below HR.out.bel).at_ k hlt.1
      have HX := Lib.hid hx; have HOK := Lib.hid hok
      have k2 : (k : Int) < (n : Int) := by omega
      have k3 : (k : Int) < 60 := by omega
      clear hx hok
      obtain ⟨hne, A2, hput, hst2⟩ := stB_put HST.out x hlt.2
      have hval := bE_valid x k hlt.2
      have hsz2 := bE_size x k
      have hmf : (bE x k).mf = true := rfl
      obtain ⟨a1, ha1⟩ : ∃ a1, A1.length = a1 := ⟨_, rfl⟩
      obtain ⟨a2, ha2⟩ : ∃ a2, A2.length = a2 := ⟨_, rfl⟩
      have hm1 : a1 = min k 8 := by rw [← ha1]; exact HST.out.len
      have hm2 : a2 = min (k + 1) 8 := by rw [← ha2]; exact hst2.len
      have hs2 := stB_sum hst2.cnt
      obtain ⟨v2, hv2⟩ : ∃ v2, sumA A2 = v2 := ⟨_, rfl⟩
      rw [ha2, hv2] at hs2
      obtain ⟨v1, hv1⟩ : ∃ v1, sumA A1 = v1 := ⟨_, rfl⟩
      have f1 : ((a2 : Int) != min ((a1 : Int) + 1) 8) = false := by rw [bne_eq_false_iff_eq]; omega
      have f2 : decide ((a2 : Int) * 4000 < v2) = false := decide_eq_false (by omega)
      have f3 : decide (v2 < (a2 : Int) * 8) = false := decide_eq_false (by omega)
      have a28 : (a2 : Int) ≤ 8 := by omega
      have a20 : (0 : Int) ≤ (a2 : Int) := by omega
      have a18 : (a1 : Int) ≤ 8 := by omega
      have a10 : (0 : Int) ≤ (a1 : Int) := by omega
      have HS2 := Lib.hid hs2; have HMM : Hid (a2 = min (a1 + 1) 8) := Lib.hid (by omega); have HKN : Hid (k + 1 ≤ n ∧ k + 1 ≤ 60) := Lib.hid ⟨by omega, by omega⟩
      have HST2 := Lib.hid hst2; have HPU := Lib.hid hput; have HNE := Lib.hid hne; have HVL := Lib.hid hval; have HA1 := Lib.hid ha1; have HA2 := Lib.hid ha2; have HV1 := Lib.hid hv1; have HV2 := Lib.hid hv2; have HMF := Lib.hid hmf
      clear hst2 hput hne hval ha1 ha2 hv1 hv2 hm1 hm2 hs2 hmf
      go_wp2_with fail
      obtain ⟨P, hP⟩ : ∃ P, partOf x.wh x.of x.lo true x.od = P := ⟨_, rfl⟩
      have hpa := partOf_any x.wh x.of x.lo true x.od (wr.alloc (.cells #[.int .u8 ((x.wh : Nat) : Int), .int .u8 ((x.of : Nat) : Int), .int .u8 ((x.lo : Nat) : Int), .bool true, .int .u8 ((x.od : Nat) : Int)] 23)) HOK.out.1 HOK.out.2.1 HOK.out.2.2.1 HOK.out.2.2.2.2
      have hpe : bE x k = { P with id := (k : Int) } := by unfold bE; rw [hP]
      rw [hP] at hpa
      rw [hpe] at hsz2
      have HPE := Lib.hid hpe; clear hpe hP
      refine hpa.mono ?_
      clear hpa
      rintro x2 w3 ⟨rfl, hb3⟩
      unfold PkV
      have HB3 : Hid (Below wr.heap.size wr (w3.alloc (.cells #[.int .i64 P.f, .int .i64 P.t, .int .i64 P.pr, .int .i64 P.ttl, .int .i64 (k : Int), .bool P.df, .bool P.mf, .int .i64 P.off, .string P.s] 30))) := Lib.hid (below_alloc (below_call (below_alloc (Below.refl _ _)) hb3))
      have HN3 := Lib.hid (alloc_new w3 (.cells #[.int .i64 P.f, .int .i64 P.t, .int .i64 P.pr, .int .i64 P.ttl, .int .i64 (k : Int), .bool P.df, .bool P.mf, .int .i64 P.off, .string P.s] 30))
      clear hb3
      have HO3 := Lib.hid (HR.out.below HB3.out)
      have e0 := (cell_of_block (k := 0) HN3.out rfl).1; have e1 := (cell_of_block (k := 1) HN3.out rfl).1; have e2 := (cell_of_block (k := 2) HN3.out rfl).1; have e3 := (cell_of_block (k := 3) HN3.out rfl).1; have e4 := (cell_of_block (k := 4) HN3.out rfl).1; have e5 := (cell_of_block (k := 5) HN3.out rfl).1; have e6 := (cell_of_block (k := 6) HN3.out rfl).1; have e7 := (cell_of_block (k := 7) HN3.out rfl).1; have e8 := (cell_of_block (k := 8) HN3.out rfl).1
      go_upto_region 12 with fail
      generalize w3.alloc (.cells #[.int .i64 P.f, .int .i64 P.t, .int .i64 P.pr, .int .i64 P.ttl, .int .i64 (k : Int), .bool P.df, .bool P.mf, .int .i64 P.off, .string P.s] 30) = w4 at *
      go_wp2_with fail
      refine (HO3.out.sizes a1 v1 HA1.out HV1.out (by omega)).mono ?_
      rintro x3 w5 ⟨rfl, hb5⟩
      have HO5 := Lib.hid (HO3.out.below hb5)
      have HN3' := Lib.hid (bblock hb5 HN3.out)
      clear e0 e1 e2 e3 e4 e5 e6 e7 e8 hb5 HO3 HN3 HB3
      have HN3 := HN3'; clear HN3'
      have e0 := (cell_of_block (k := 0) HN3.out rfl).1; have e1 := (cell_of_block (k := 1) HN3.out rfl).1; have e2 := (cell_of_block (k := 2) HN3.out rfl).1; have e3 := (cell_of_block (k := 3) HN3.out rfl).1; have e4 := (cell_of_block (k := 4) HN3.out rfl).1; have e5 := (cell_of_block (k := 5) HN3.out rfl).1; have e6 := (cell_of_block (k := 6) HN3.out rfl).1; have e7 := (cell_of_block (k := 7) HN3.out rfl).1; have e8 := (cell_of_block (k := 8) HN3.out rfl).1
      have HPUT := Lib.hid (HO5.out.putB 0 { P with id := (k : Int) } A2 pk0 false 0 (by rw [← HPE.out]; exact HPU.out) (by rw [← HPE.out]; exact HVL.out) (by rw [← HPE.out]; exact HMF.out) (by show P.s.size ≤ _; have h9 : P.s.size ≤ 24 := hsz2.2; omega) hA8 (by rw [← HPE.out]; exact HNE.out) (by unfold In64; omega))
      go_wp2_with fail
      refine HPUT.out.mono ?_
      rintro x4 w6 ⟨rfl, ho6⟩
      have HO6 := Lib.hid ((ho6.more (K' := fun _ => False) (fun q hq => hq.elim)).below ((Below.refl _ _).alloc (Nat.le_refl _) (.cells #[.int .i64 0, .int .i64 0, .int .i64 0, .int .i64 0, .int .i64 0, .bool false, .bool false, .int .i64 0, .string ⟨#[]⟩] 30)))
      clear ho6 HPUT e0 e1 e2 e3 e4 e5 e6 e7 e8 HO5 HN3
      unfold PutRes PkV pk0
      dsimp only
      go_upto_region 14 with fail
      generalize w6.alloc (.cells #[.int .i64 0, .int .i64 0, .int .i64 0, .int .i64 0, .int .i64 0, .bool false, .bool false, .int .i64 0, .string ⟨#[]⟩] 30) = w7 at *
      go_wp2_with fail
      refine (HO6.out.sizes a2 v2 HA2.out HV2.out (by omega)).mono ?_
      rintro x5 w8 ⟨rfl, hb8⟩
      have HO8 := Lib.hid (HO6.out.below hb8)
      clear hb8 HO6 hlt
      go_wp2_with fail
      all_goals
        have hs9 := HS2.out
        have hm9 := HMM.out
        have hk9 := HKN.out
        first
          | exact ⟨⟨k + 1, A2, hk9.1, hk9.2, by go_num, HST2.out, HO8.out⟩, by simp [Go.RowKit.intOf]; omega⟩
          | (exfalso; omega)
    · have d2 : k < n → decide ((k : Int) < 60) = false := fun h => by simp; omega
      obtain ⟨h29, hk29⟩ := stB_29 HST.out
      have hle := stB_30 HST.out
      obtain ⟨l30, h30⟩ : ∃ l30, toldA 30 A1 = l30 := ⟨_, rfl⟩
      rw [h30] at hle
      obtain ⟨n30, hn30⟩ : ∃ n30, l30.length = n30 := ⟨_, rfl⟩
      rw [hn30] at hle
      have d3 : decide ((n30 : Int) ≤ 8) = true := decide_eq_true (by omega)
      have HT1 := Lib.hid (HR.out.tick 29 [] 0 h29 rfl A1 hk29 (by omega) (by unfold In64; omega))
      clear h29 hk29
      by_cases hkn2 : k < n
      · have d1 : decide ((k : Int) < (n : Int)) = true := by simp; omega
        have d2 := d2 hkn2
        clear hlt
        go_wp2_with fail
        refine HT1.out.mono ?_
        rintro y s1 ⟨⟨B2, c2, rfl, -⟩, ho1, -, -⟩
        have HO1 := Lib.hid (ho1.tick 30 l30 n30 h30 hn30 _ rfl (by omega) (by unfold In64; omega))
        have HB1' := Lib.hid ho1.bel
        clear ho1 HT1
        go_wp2_with fail
        refine HO1.out.mono ?_
        rintro y s2 ⟨⟨B4, c4, rfl, -⟩, ho2, -, -⟩
        have HBE := Lib.hid ho2.bel
        clear ho2 HO1
        go_wp2_with fail
        go_ret
        exact ⟨rfl, HBE.out⟩
      · have d1 : decide ((k : Int) < (n : Int)) = false := by simp; omega
        clear hlt d2
        go_wp2_with fail
        refine HT1.out.mono ?_
        rintro y s1 ⟨⟨B2, c2, rfl, -⟩, ho1, -, -⟩
        have HO1 := Lib.hid (ho1.tick 30 l30 n30 h30 hn30 _ rfl (by omega) (by unfold In64; omega))
        have HB1' := Lib.hid ho1.bel
        clear ho1 HT1
        go_wp2_with fail
        refine HO1.out.mono ?_
        rintro y s2 ⟨⟨B4, c4, rfl, -⟩, ho2, -, -⟩
        have HBE := Lib.hid ho2.bel
        clear ho2 HO1
        go_wp2_with fail
        go_ret
        exact ⟨rfl, HBE.out⟩
end Go.Proofs.Ytmeldgnjgogacaa.Re
