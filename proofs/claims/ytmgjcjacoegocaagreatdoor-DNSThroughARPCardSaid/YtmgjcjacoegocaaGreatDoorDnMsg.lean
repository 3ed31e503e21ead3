/-
  The contract of dns.Valid.
-/
import Derived.Test.YtmgjcjacoegocaaGreatDoorDnRec
namespace Go.Proofs.YtmgjcjacoegocaaGreatDoor.Dn
set_option maxRecDepth 100000
open Go.RowKit Go.Proofs.YtmgjcjacoegocaaGreatDoor.Wire Go.Proofs.YtmgjcjacoegocaaGreatDoor.Rw

/-- a message's cells; its records lie in a row -/
def mcells (d : Msg) (A : Option Addr) (c : Nat) : List Value := [.int .i64 d.id, .bool d.ans, .int .i64 d.code, .string ⟨d.nm.toArray⟩, .int .i64 d.kd, .slice A d.recs.length c]
def RRow (W : World) (lo : Nat) (A : Option Addr) (c : Nat) (l : List Rec) : Prop := SRow 92 5 rcells W lo A c l
def Rec.fits (r : Rec) : Prop := r.nm.length ≤ 1000000 ∧ r.dst.length ≤ 1000000
def Msg.fits (d : Msg) : Prop := d.nm.length ≤ 1000000 ∧ d.recs.length ≤ 1000000 ∧ ∀ r ∈ d.recs, r.fits
theorem RRow.below {W W' : World} {lo : Nat} {A : Option Addr} {c : Nat} {l : List Rec} (h : RRow W lo A c l) (hb : Below W.heap.size W W') : RRow W' lo A c l := SRow.below h hb
theorem RRow.at {W : World} {lo : Nat} {A : Option Addr} {c : Nat} {l : List Rec} (h : RRow W lo A c l) {k : Nat} (hk : k < l.length) : ∃ g, A = some ⟨g, 0, none⟩ ∧ lo ≤ g ∧ W.cell? ⟨g, k * 5, none⟩ = some (.string ⟨l[k].nm.toArray⟩) ∧ W.cell? ⟨g, k * 5 + 1, none⟩ = some (.int .i64 l[k].kd) ∧ W.cell? ⟨g, k * 5 + 2, none⟩ = some (.int .i64 l[k].ttl) ∧ W.cell? ⟨g, k * 5 + 3, none⟩ = some (.int .i64 l[k].addr) ∧ W.cell? ⟨g, k * 5 + 4, none⟩ = some (.string ⟨l[k].dst.toArray⟩) := by
  obtain ⟨g, hA, hlo⟩ := SRow.addr h (by omega)
  have e : ∀ r u, r < 5 → (rcells l[k])[r]? = some u → W.cell? ⟨g, k * 5 + r, none⟩ = some u := fun r u hr hu => SRow.cell h rcells_len hA (List.getElem?_eq_getElem hk) hr hu
  exact ⟨g, hA, hlo, e 0 _ (by omega) rfl, e 1 _ (by omega) rfl, e 2 _ (by omega) rfl, e 3 _ (by omega) rfl, e 4 _ (by omega) rfl⟩
theorem rec_eta (r : Rec) : (#[.string ⟨r.nm.toArray⟩, .int .i64 r.kd, .int .i64 r.ttl, .int .i64 r.addr, .string ⟨r.dst.toArray⟩] : Array Value) = (rcells r).toArray := rfl
theorem msgB_iff (d : Msg) : msgB d = true ↔ ((0 ≤ d.id ∧ d.id ≤ 65535 ∧ 0 ≤ d.code ∧ d.code ≤ 2) ∧ nameB d.nm = true ∧ (d.kd = 1 ∨ d.kd = 2) ∧ d.recs.length ≤ 8 ∧ d.recs.all recB = true ∧ (d.ans = true ∨ (d.code = 0 ∧ d.recs.length = 0))) := by
  unfold msgB
  simp only [Bool.and_eq_true, Bool.or_eq_true, decide_eq_true_eq, and_assoc]
set_option maxHeartbeats 8000000 in
theorem valid_any (d : Msg) (A : Option Addr) (c lo : Nat) (w : World) (hf : d.fits) (hr : RRow w lo A c d.recs) :
    Calls Tryz.prog 28 #[.agg (mcells d A c).toArray] w fun e w' => e = .returned (.bool (msgB d)) ∧ Below w.heap.size w w' := by
  obtain ⟨id, ans, code, nm, kd, recs⟩ := d
  obtain ⟨hfn, hfl, hfr⟩ := hf
  dsimp only at hfn hfl hfr hr
  have HN := Lib.hid fun W => vname_any ⟨nm.toArray⟩ W (by show nm.length ≤ _; omega)
  have HV := Lib.hid fun (r : Rec) W (hr : r ∈ recs) => vrec_any r W (by have := (hfr r hr).1; omega) (by have := (hfr r hr).2; omega)
  have HM := Lib.hid (msgB_iff ⟨id, ans, code, nm, kd, recs⟩)
  generalize hmb : msgB ⟨id, ans, code, nm, kd, recs⟩ = mb at *
  clear hmb
  have HF : Hid (∀ x : Prop, (mb = true → False) → false = mb) := Lib.hid fun _ h => (Bool.eq_false_iff.2 h).symm
  have HR := Lib.hid hr; clear hr hfr
  have Hm := Lib.hid (alloc_new w (.cells #[.int .i64 id, .bool ans, .int .i64 code, .string ⟨nm.toArray⟩, .int .i64 kd, .slice A recs.length c] 39))
  have HB := below_alloc (o := .cells #[.int .i64 id, .bool ans, .int .i64 code, .string ⟨nm.toArray⟩, .int .i64 kd, .slice A recs.length c] 39) (Below.refl w.heap.size w)
  unfold mcells
  by_cases c1 : 0 ≤ id ∧ id ≤ 65535 ∧ 0 ≤ code ∧ code ≤ 2
  · obtain ⟨i0, i1, k0, k1⟩ := c1
    have i0' : ¬ id < 0 := by omega
    have i1' : ¬ 65535 < id := by omega
    have k0' : ¬ code < 0 := by omega
    have k1' : ¬ 2 < code := by omega
    go_enter Tryz.func28, Tryz.ntmps28
    go_wp2_with fail
    refine (HN.out _).mono ?_
    rintro e w1 ⟨rfl, hb⟩
    rw [show nameB (⟨nm.toArray⟩ : ByteArray).data.toList = nameB nm from rfl]
    have Hm' := Lib.hid (bblock hb Hm.out); clear Hm; have Hm := Hm'; clear Hm'
    have HB' := below_call HB hb; clear HB hb; have HB := HB'; clear HB'; have hz := HB.size
    have qm0 := (cell_of_block (k := 0) Hm.out rfl).1; have zm0 := (cell_of_block (k := 0) Hm.out rfl).2; have qm1 := (cell_of_block (k := 1) Hm.out rfl).1; have zm1 := (cell_of_block (k := 1) Hm.out rfl).2; have qm2 := (cell_of_block (k := 2) Hm.out rfl).1; have zm2 := (cell_of_block (k := 2) Hm.out rfl).2; have qm3 := (cell_of_block (k := 3) Hm.out rfl).1; have zm3 := (cell_of_block (k := 3) Hm.out rfl).2; have qm4 := (cell_of_block (k := 4) Hm.out rfl).1; have zm4 := (cell_of_block (k := 4) Hm.out rfl).2; have qm5 := (cell_of_block (k := 5) Hm.out rfl).1; have zm5 := (cell_of_block (k := 5) Hm.out rfl).2; have lt_m := blk_lt Hm.out
    cases hnb : nameB nm with
    | false =>
      go_wp2_with fail
      go_ret
      exact ⟨ret_bool (HF.out True fun h => by have h2 : nameB nm = true := (HM.out.1 h).2.1; rw [hnb] at h2; cases h2), HB⟩
    | true =>
      by_cases c2 : kd = 1 ∨ kd = 2
      · by_cases c3 : recs.length ≤ 8
        · have c3' : ¬ (8 : Int) < (recs.length : Int) := by omega
          have c4 : (kd != 1 && kd != 2) = false := by rcases c2 with rfl | rfl <;> rfl
          rcases c2 with rfl | rfl
          all_goals
            go_wp2_with fail
            clear qm0 zm0 qm1 zm1 qm2 zm2 qm3 zm3 qm4 zm4 qm5 zm5 lt_m
            go_loopw [44] (fun u wr => ∃ k : Nat, k ≤ recs.length ∧ u = .int .i64 (k : Int) ∧ Below w1.heap.size w1 wr ∧ ∀ j (h : j < recs.length), j < k → recB (recs[j]'h) = true) (fun u wr => recs.length - (intOf u).toNat)
            case atStart => exact ⟨0, by omega, rfl, Below.refl _ _, fun j h q => by omega⟩
            case round =>
              obtain ⟨k, hk, rfl, hbr, hin⟩ := hrel
              have HIn := Lib.hid hin; clear hin
              have HBr := below_call HB hbr
              have Hm' := Lib.hid (bblock hbr Hm.out)
              by_cases hlt : k < recs.length
              · have hkl : decide ((k : Int) < (recs.length : Int)) = true := by simp; omega
                have hk1 : (k : Int) < (recs.length : Int) := by omega
                have hk0 : (0 : Int) ≤ (k : Int) := by omega
                obtain ⟨g, hA, hlo, d0, d1, d2, d3, d4⟩ := (HR.out.below HBr).at hlt
                subst hA
                have hlg : g < wr.heap.size := by
                  rcases Nat.lt_or_ge g wr.heap.size with q | q
                  · exact q
                  · simp [World.cell?, Array.getElem?_eq_none q] at d0
                have HVk := Lib.hid fun W => HV.out recs[k] W (List.getElem_mem hlt)
                have HIk : Hid (∀ b, recB recs[k] = b → ∀ j (h : j < recs.length), j < k + 1 → b = true → recB (recs[j]'h) = true) := Lib.hid fun b hb j h q hbt => by
                  by_cases e : j = k
                  · subst e; rw [hb]; exact hbt
                  · exact HIn.out j h (by omega)
                have HNk : Hid (recB recs[k] = false → recs.all recB = false) := Lib.hid fun h => List.all_eq_false.2 ⟨recs[k], List.getElem_mem hlt, by rw [h]; simp⟩
                have HEk := Lib.hid (rec_eta recs[k])
                generalize recs[k] = r at *
                have hnr : ∀ x : List UInt8, (⟨x.toArray⟩ : ByteArray) = ⟨x.toArray⟩ := fun _ => rfl
                clear hnr
                go_wp2_with fail
                clear d0 d1 d2 d3 d4
                refine (HVk.out _).mono ?_
                rintro e w3 ⟨rfl, hb3⟩
                have hb4 := below_call (below_alloc (Below.refl wr.heap.size wr)) hb3
                cases hrb : recB r with
                | true =>
                  go_wp2_with fail
                  exact ⟨⟨k + 1, by omega, by go_num, below_call hbr hb4, fun j h q => HIk.out true hrb j h q rfl⟩, by simp [Go.RowKit.intOf]; omega⟩
                | false =>
                  go_wp2_with fail
                  go_ret
                  exact ⟨ret_bool (HF.out True fun h => by have h2 := (HM.out.1 h).2.2.2.2.1; rw [HNk.out hrb] at h2; cases h2), below_call HBr hb4⟩
              · have hkl : decide ((k : Int) < (recs.length : Int)) = false := by simp; omega
                have hall : recs.all recB = true := List.all_eq_true.2 fun r h => by
                  obtain ⟨m, hm', rfl⟩ := List.getElem_of_mem h
                  exact HIn.out m hm' (by omega)
                have HAll := Lib.hid hall; clear hall
                obtain ⟨⟨m0, m1, m2, m3, m4, m5⟩, -⟩ := cells6 Hm'.out
                cases ans with
                | true =>
                  go_wp2_with fail
                  go_ret
                  exact ⟨ret_bool (HM.out.2 ⟨⟨i0, i1, k0, k1⟩, hnb, by simp, c3, HAll.out, .inl (by simp)⟩).symm, HBr⟩
                | false =>
                  go_wp2_with fail
                  all_goals
                    go_ret
                    refine ⟨ret_bool ?_, HBr⟩
                  · rw [Bool.eq_iff_iff]
                    constructor
                    · intro h
                      exact HM.out.2 ⟨⟨i0, i1, by first | exact k0 | omega, by first | exact k1 | omega⟩, hnb, by simp, c3, HAll.out, .inr ⟨by first | rfl | omega | assumption, by simp at h; simp [h]⟩⟩
                    · intro h
                      rcases (HM.out.1 h).2.2.2.2.2 with q | q
                      · simp at q
                      · have q2 : recs.length = 0 := q.2
                        simp [q2]
                  · refine HF.out True fun h => ?_
                    rcases (HM.out.1 h).2.2.2.2.2 with q | q
                    · simp at q
                    · have q2 : code = 0 := q.1
                      contradiction
        · have c3' : (8 : Int) < (recs.length : Int) := by omega
          rcases c2 with rfl | rfl
          all_goals
            go_wp2_with fail
            go_ret
            exact ⟨ret_bool (HF.out True fun h => c3 (HM.out.1 h).2.2.2.1), HB⟩
      · have e1 : (kd != 1) = true := by simp; omega
        have e2 : (kd != 2) = true := by simp; omega
        go_wp2_with fail
        go_ret
        exact ⟨ret_bool (HF.out True fun h => c2 (HM.out.1 h).2.2.1), HB⟩
  · have HS : Hid ((decide (id < 0) || decide (65535 < id) || decide (code < 0) || decide (2 < code)) = true) := Lib.hid (by simp only [Bool.or_eq_true, decide_eq_true_eq]; omega)
    have HC := Lib.hid c1; clear c1
    obtain ⟨⟨m0, m1, m2, m3, m4, m5⟩, -⟩ := cells6 Hm.out
    go_enter Tryz.func28, Tryz.ntmps28
    go_wp2_with fail
    all_goals first
      | (go_ret; exact ⟨ret_bool (HF.out True fun h => HC.out (HM.out.1 h).1), HB⟩)
      | (exfalso; have := HC.out; omega)
end Go.Proofs.YtmgjcjacoegocaaGreatDoor.Dn
