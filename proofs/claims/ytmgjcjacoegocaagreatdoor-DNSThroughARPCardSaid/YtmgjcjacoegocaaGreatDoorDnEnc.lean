/-
  The contracts of the writer's record and of dns.Encode.
-/
import Derived.Test.YtmgjcjacoegocaaGreatDoorDnWr
namespace Go.Proofs.YtmgjcjacoegocaaGreatDoor.Dn
set_option maxRecDepth 100000
open Go.RowKit Go.Proofs.YtmgjcjacoegocaaGreatDoor.Wire Go.Proofs.YtmgjcjacoegocaaGreatDoor.Rw

theorem rec_ne (v0 v1 v2 v3 v4 : Value) (c : Array Value) (f : Nat × Nat) : (Obj.cells #[v0, v1, v2, v3, v4] 92 (0, 0)) ≠ .cells c 5 f := by
  intro e
  injection e with _ e2
  exact absurd e2 (by decide)
theorem recB_iff (r : Rec) : recB r = true ↔ (nameB r.nm = true ∧ (0 ≤ r.ttl ∧ r.ttl ≤ 1000) ∧ ((r.kd = 1 ∧ (0 ≤ r.addr ∧ r.addr ≤ 4294967295) ∧ r.dst = []) ∨ (r.kd = 2 ∧ nameB r.dst = true ∧ r.addr = 0))) := by
  unfold recB
  simp only [Bool.and_eq_true, Bool.or_eq_true, decide_eq_true_eq, and_assoc]
set_option maxHeartbeats 4000000 in
theorem record_w (B b : Nat) (l : List UInt8) (f : Bool) (r : Rec) (w : World) (h : IsW B b l f w) (hr : recB r = true) (hlen : l.length ≤ 40000) (hBw : B ≤ w.heap.size) :
    Calls Tryz.prog 38 #[.pointer (some ⟨b, 0, none⟩), .agg (rcells r).toArray] w fun e w' => e = .returned (.tuple #[]) ∧ IsW B b (l ++ encRec r) f w' ∧ Below B w w' ∧ KW b w w' := by
  obtain ⟨hn, ht, hk⟩ := (recB_iff r).1 hr
  obtain ⟨nm, kd, ttl, addr, dst⟩ := r
  dsimp only at hn ht hk
  have hbw := h.lt
  have hn60 := name_len hn
  have HE : Hid (encRec ⟨nm, kd, ttl, addr, dst⟩ = encName nm ++ (be 1 kd ++ (be 2 ttl ++ (if kd = 2 then encName dst else be 4 addr)))) := Lib.hid rfl
  have hel := encName_len nm
  have hb1 := be_length 1 kd; have hb2 := be_length 2 ttl
  have HI := Lib.hid (h.below (((Below.refl w.heap.size w).alloc (Nat.le_refl _) (.cells #[.string ⟨nm.toArray⟩, .int .i64 kd, .int .i64 ttl, .int .i64 addr, .string ⟨dst.toArray⟩] 92)))); clear h
  have Hm := Lib.hid (alloc_new w (.cells #[.string ⟨nm.toArray⟩, .int .i64 kd, .int .i64 ttl, .int .i64 addr, .string ⟨dst.toArray⟩] 92))
  have HB := ((Below.refl w.heap.size w).alloc (Nat.le_refl _) (.cells #[.string ⟨nm.toArray⟩, .int .i64 kd, .int .i64 ttl, .int .i64 addr, .string ⟨dst.toArray⟩] 92)).mono hBw
  have HK : KW b w (w.alloc (.cells #[.string ⟨nm.toArray⟩, .int .i64 kd, .int .i64 ttl, .int .i64 addr, .string ⟨dst.toArray⟩] 92)) := KW.of_below ((Below.refl w.heap.size w).alloc (Nat.le_refl _) _)
  have hB0 := HB.size
  unfold rcells
  go_enter Tryz.func38, Tryz.ntmps38
  go_wp2_with fail
  refine (name_w B b l f nm _ HI.out hn (by omega) (by omega)).mono ?_
  rintro e w1 ⟨rfl, HJ, hbb, hkk⟩
  clear HI
  have HI := Lib.hid HJ; clear HJ
  have Hm1 := Lib.hid (hkk.2 _ _ Hm.out (by omega) (rec_ne _ _ _ _ _)); clear Hm
  have HB1 := HB.trans hbb; have HK1 := HK.trans hkk; clear HB HK hbb hkk
  have hs1 := HB1.size
  obtain ⟨⟨m0, m1, m2, m3, m4⟩, -⟩ := cells5 Hm1.out
  go_wp2_with fail
  clear m0 m1 m2 m3 m4
  refine (number_w B b _ f kd 1 w1 HI.out (by omega) (by omega) (by omega) (by simp; omega) (by rw [List.length_append]; omega) (by omega)).mono ?_
  rintro e w2 ⟨rfl, HJ, hbb, hkk⟩
  clear HI
  have HI := Lib.hid HJ; clear HJ
  have Hm2 := Lib.hid (hkk.2 _ _ Hm1.out (by omega) (rec_ne _ _ _ _ _)); clear Hm1
  have HB2 := HB1.trans hbb; have HK2 := HK1.trans hkk; clear HB1 HK1 hbb hkk
  have hs2 := HB2.size
  obtain ⟨⟨m0, m1, m2, m3, m4⟩, -⟩ := cells5 Hm2.out
  go_wp2_with fail
  clear m0 m1 m2 m3 m4
  refine (number_w B b _ f ttl 2 w2 HI.out (by omega) (by omega) (by omega) (by simp; omega) (by rw [List.length_append, List.length_append]; show _ + (be 1 kd).length ≤ _; omega) (by omega)).mono ?_
  rintro e w3 ⟨rfl, HJ, hbb, hkk⟩
  clear HI
  have HI := Lib.hid HJ; clear HJ
  have Hm3 := Lib.hid (hkk.2 _ _ Hm2.out (by omega) (rec_ne _ _ _ _ _)); clear Hm2
  have HB3 := HB2.trans hbb; have HK3 := HK2.trans hkk; clear HB2 HK2 hbb hkk
  have hs3 := HB3.size
  obtain ⟨⟨m0, m1, m2, m3, m4⟩, -⟩ := cells5 Hm3.out
  have hl3 : (l ++ encName nm ++ be (1 : Int).toNat kd ++ be (2 : Int).toNat ttl).length ≤ 45000 := by
    simp only [List.length_append]
    show l.length + (encName nm).length + (be 1 kd).length + (be 2 ttl).length ≤ _
    omega
  have HL3 : Hid (l ++ encName nm ++ be (1 : Int).toNat kd ++ be (2 : Int).toNat ttl = l ++ (encName nm ++ (be 1 kd ++ be 2 ttl))) := Lib.hid (by simp)
  rcases hk with ⟨rfl, ha, rfl⟩ | ⟨rfl, hd, rfl⟩
  · go_wp2_with fail
    clear m0 m1 m2 m3 m4
    refine (number_w B b _ f addr 4 w3 HI.out (by omega) (by omega) (by omega) (by simp; omega) (by omega) (by omega)).mono ?_
    rintro e w4 ⟨rfl, HJ, hbb, hkk⟩
    have HJ4 := Lib.hid HJ; clear HJ
    go_wp2_with fail
    go_end0
    refine ⟨rfl, ?_, HB3.trans hbb, HK3.trans hkk⟩
    have := HJ4.out
    rw [HL3.out] at this
    rw [HE.out, if_neg (by omega)]
    simpa using this
  · go_wp2_with fail
    clear m0 m1 m2 m3 m4
    refine (name_w B b _ f dst w3 HI.out hd (by omega) (by omega)).mono ?_
    rintro e w4 ⟨rfl, HJ, hbb, hkk⟩
    have HJ4 := Lib.hid HJ; clear HJ
    go_wp2_with fail
    refine bodyPost_ret (results_none rfl _ _ _) rfl ?_
    refine ⟨rfl, ?_, HB3.trans hbb, HK3.trans hkk⟩
    have := HJ4.out
    rw [HL3.out] at this
    rw [HE.out]
    simpa using this
theorem enc_shape (d : Msg) : enc d = be 2 d.id ++ be 1 (ansN d.ans) ++ be 1 d.code ++ be 1 d.kd ++ encName d.nm ++ be 1 d.recs.length ++ d.recs.flatMap encRec := by
  unfold enc
  simp
theorem flat_take_le (L : List Rec) (i : Nat) : ((L.take i).flatMap encRec).length ≤ (L.flatMap encRec).length := by
  have h : L.flatMap encRec = (L.take i).flatMap encRec ++ (L.drop i).flatMap encRec := by
    rw [← List.flatMap_append, List.take_append_drop]
  rw [h, List.length_append]; omega
set_option maxHeartbeats 4000000 in
theorem encode_no (d : Msg) (A : Option Addr) (c lo : Nat) (w : World) (hf : d.fits) (hr : RRow w lo A c d.recs) (h : msgB d = false) :
    Calls Tryz.prog 7 #[.agg (mcells d A c).toArray] w fun e w' => e = .returned (.tuple #[.string ⟨#[]⟩, .int .i64 190]) ∧ Below w.heap.size w w' := by
  have hb0 := (Below.refl w.heap.size w).alloc (Nat.le_refl _) (.cells (mcells d A c).toArray 39)
  have HV := Lib.hid (h ▸ valid_any d A c lo _ hf (hr.below hb0))
  obtain ⟨id, ans, code, nm, kd, recs⟩ := d
  unfold mcells at *
  have Hm := Lib.hid (alloc_new w (.cells #[.int .i64 id, .bool ans, .int .i64 code, .string ⟨nm.toArray⟩, .int .i64 kd, .slice A recs.length c] 39))
  clear hf hr h
  go_enter Tryz.func7, Tryz.ntmps7
  go_wp2_with fail
  refine HV.out.mono ?_
  rintro e w1 ⟨rfl, hb⟩
  go_wp2_with fail
  go_ret2
  exact ⟨rfl, below_call hb0 hb⟩
end Go.Proofs.YtmgjcjacoegocaaGreatDoor.Dn
