/-
  The contract of dns.Decode.
-/
import Derived.Test.YtmgjcjacoegocaaGreatDoorDnRg
import Derived.Test.YtmgjcjacoegocaaGreatDoorDnEnc2
import Derived.Recover
import Derived.Defers
namespace Go.Proofs.YtmgjcjacoegocaaGreatDoor.Dn
set_option maxRecDepth 100000
open Go.RowKit Go.Proofs.YtmgjcjacoegocaaGreatDoor.Wire Go.Proofs.YtmgjcjacoegocaaGreatDoor.Rw

theorem catch_panicking (b : Nat) (x0 x1 x2 x3 x4 x5 : Value) (y : Int) (u : TypeId) (pv : Value) (w : World) (hc0 : w.cell? ⟨b, 0, none⟩ = some x0) (hz0 : w.frozen? ⟨b, 0, none⟩ = false) (hc1 : w.cell? ⟨b, 1, none⟩ = some x1) (hz1 : w.frozen? ⟨b, 1, none⟩ = false) (hc2 : w.cell? ⟨b, 2, none⟩ = some x2) (hz2 : w.frozen? ⟨b, 2, none⟩ = false) (hc3 : w.cell? ⟨b, 3, none⟩ = some x3) (hz3 : w.frozen? ⟨b, 3, none⟩ = false) (hc4 : w.cell? ⟨b, 4, none⟩ = some x4) (hz4 : w.frozen? ⟨b, 4, none⟩ = false) (hc5 : w.cell? ⟨b, 5, none⟩ = some x5) (hz5 : w.frozen? ⟨b, 5, none⟩ = false) (hc6 : w.cell? ⟨b + 1, 0, none⟩ = some (.int .i64 y)) (hz6 : w.frozen? ⟨b + 1, 0, none⟩ = false) :
    CallsD Tryz.prog 65 #[.pointer (some ⟨b, 0, none⟩), .pointer (some ⟨b + 1, 0, none⟩)] (.panicking [{ v := .iface u pv, recovered := false }]) w fun e u' w' =>
      e = .returned (.tuple #[]) ∧ u' = .panicking [{ v := .iface u pv, recovered := true }] ∧ w' = (World.setCell (World.setCell (World.setCell (World.setCell (World.setCell (World.setCell (World.setCell w ⟨b, 0, none⟩ (.int .i64 0)) ⟨b, 1, none⟩ (.bool false)) ⟨b, 2, none⟩ (.int .i64 0)) ⟨b, 3, none⟩ (.string ⟨#[]⟩)) ⟨b, 4, none⟩ (.int .i64 0)) ⟨b, 5, none⟩ (.slice none 0 0)) ⟨b + 1, 0, none⟩ (.int .i64 190)) := by
  have hc7 : (World.setCell (World.setCell (World.setCell (World.setCell (World.setCell (World.setCell w ⟨b, 0, none⟩ (.int .i64 0)) ⟨b, 1, none⟩ (.bool false)) ⟨b, 2, none⟩ (.int .i64 0)) ⟨b, 3, none⟩ (.string ⟨#[]⟩)) ⟨b, 4, none⟩ (.int .i64 0)) ⟨b, 5, none⟩ (.slice none 0 0)).cell? ⟨b + 1, 0, none⟩ = some (.int .i64 y) := by
    rw [World.cell?_setCell_other _ _ _ _ (by simp), World.cell?_setCell_other _ _ _ _ (by simp), World.cell?_setCell_other _ _ _ _ (by simp), World.cell?_setCell_other _ _ _ _ (by simp), World.cell?_setCell_other _ _ _ _ (by simp), World.cell?_setCell_other _ _ _ _ (by simp)]; exact hc6
  refine callsD_of_wpS Tryz.func65 rfl fun c₀ cs hu => ?_
  apply wpS_seq
  apply wpS_region
  simp [wpOpsS, go_sem, recoverD, hu, Tryz.ntmps65, Exit.thenS]
  refine wpS_of_wp ?_
  simp only [Array.replicate, List.replicate_succ, List.replicate_zero, List.setIfInBounds_toArray, List.set_cons_zero, List.set_cons_succ, List.append_toArray, List.cons_append, List.nil_append]
  go_wp2
  exact ⟨rfl, _, rfl, _, results_none rfl _ _ _, rfl, rfl, rfl⟩
theorem catch_idle (p q : Addr) (w : World) :
    CallsD Tryz.prog 65 #[.pointer (some p), .pointer (some q)] .returning w fun e u' w' => e = .returned (.tuple #[]) ∧ u' = .returning ∧ w' = w := by
  refine callsD_of_wpS Tryz.func65 rfl fun c₀ cs hu => ?_
  apply wpS_seq
  apply wpS_region
  simp [wpOpsS, go_sem, recoverD, hu, Tryz.ntmps65, Exit.thenS]
  refine wpS_of_wp ?_
  simp only [Array.replicate, List.replicate_succ, List.replicate_zero, List.setIfInBounds_toArray, List.set_cons_zero, List.set_cons_succ, List.append_toArray, List.cons_append, List.nil_append]
  go_wp2
  refine ⟨rfl, .returning, ?_, _, results_none rfl _ _ _, rfl, rfl, rfl⟩
  cases c₀; simp_all
theorem row_off {W : World} {lo : Nat} {A : Option Addr} {c : Nat} {l : List Rec} {q : Nat} {vs : Array Value} {T : TypeId} (h : RRow W lo A c l) (hq : W.heap[q]? = some (.cells vs T (0, 0))) (hT : T ≠ 92) : ¬ BK A q := by
  rintro ⟨x, rfl, rfl⟩
  rcases h.2 with ⟨e, -⟩ | ⟨g, cap, cur, e, -, hg, -⟩
  · cases e
  · injection e with e
    cases e
    rw [hg] at hq
    injection hq with hq
    injection hq with _ h4
    exact hT h4.symm
def mzA : Array Value := #[.int .i64 0, .bool false, .int .i64 0, .string ⟨#[]⟩, .int .i64 0, .slice none 0 0]
def DecPost (s : ByteArray) (w : World) (e : Ending) (w' : World) : Prop := Below w.heap.size w w' ∧
  ((decD s.data.toList = none ∧ e = .returned (.tuple #[.agg mzA, .int .i64 190])) ∨ ∃ d A c, decD s.data.toList = some d ∧ e = .returned (.tuple #[.agg (mcells d A c).toArray, .int .i64 0]) ∧ d.fits ∧ RRow w' w.heap.size A c d.recs)
set_option maxHeartbeats 4000000 in
theorem decode_any (s : ByteArray) (w : World) (hs : s.size ≤ 1000000) :
    Calls Tryz.prog 18 #[.string s] w (DecPost s w) := by
  have hmf : ∀ (fn : Fn) (first cap : Array Value) (w : World), (Instr.makeFunc fn first cap).run Tryz.prog w = .ok (.func fn first cap) w := fun _ _ _ _ => rfl
  have H2 := Lib.hid (block_alloc (block_alloc (alloc_new w (.cells mzA 39)) (.cells #[.int .i64 0] 31)) (rdO s 0))
  have H3 := Lib.hid (block_alloc (alloc_new' (w.alloc (.cells mzA 39)) (.cells #[.int .i64 0] 31) (w.heap.size + 1) (by simp)) (rdO s 0))
  have HR := Lib.hid (alloc_new' ((w.alloc (.cells mzA 39)).alloc (.cells #[.int .i64 0] 31)) (rdO s 0) (w.heap.size + 2) (by simp))
  have HB := Lib.hid (below_alloc (o := rdO s 0) (below_alloc (o := .cells #[.int .i64 0] 31) (below_alloc (o := .cells mzA 39) (Below.refl w.heap.size w))))
  have hsz : (((w.alloc (.cells mzA 39)).alloc (.cells #[.int .i64 0] 31)).alloc (rdO s 0)).heap.size = w.heap.size + 3 := by simp
  have hro : restOf s 0 = s.data.toList := by unfold restOf; rw [List.drop_zero]
  have HMs := Lib.hid (message_r (w.heap.size + 2) s 0 _ HR.out (by omega) hs)
  unfold mzA rdO at *
  go_enter_defers Tryz.func18, Tryz.ntmps18
  go_wp2_with fail
  refine HMs.out.mono ?_
  rintro e w1 ⟨hg1, ⟨hn1, rfl⟩ | ⟨d, l, A, c, hn1, rfl, hfit, hrow⟩⟩
  · have HN : Hid (decD s.data.toList = none) := Lib.hid (by rw [hro] at hn1; unfold decD; rw [hn1])
    have H21 := Lib.hid ((hg1.block w.heap.size (by omega) (by intro e; injection e with e; omega)).trans H2.out)
    have H31 := Lib.hid ((hg1.block (w.heap.size + 1) (by omega) (by intro e; injection e with e; omega)).trans H3.out)
    have HB1 := Lib.hid (below_only HB.out hg1 (by omega))
    clear hn1 hg1
    unfold panE
    go_wp2_with fail
    obtain ⟨⟨p0, p1, p2, p3, p4, p5⟩, f0, f1, f2, f3, f4, f5⟩ := cells6 H21.out
    obtain ⟨q0, q1⟩ := cell_of_box H31.out
    refine leaves_cons (f := 65) (args := #[.pointer (some ⟨w.heap.size, 0, none⟩), .pointer (some ⟨w.heap.size + 1, 0, none⟩)]) (by simp) (by simp [go_sem]) ?_
    refine (catch_panicking _ _ _ _ _ _ _ _ _ _ _ p0 f0 p1 f1 p2 f2 p3 f3 p4 f4 p5 f5 q0 q1).mono ?_
    rintro e u' w'' ⟨rfl, rfl, rfl⟩
    have HY6 := cells_eq (b := #[.int .i64 0, .bool false, .int .i64 0, .string ⟨#[]⟩, .int .i64 0, .slice none 0 0]) (block_setCell (k := 5) (v := .slice none 0 0) (block_setCell (k := 4) (v := .int .i64 0) (block_setCell (k := 3) (v := .string ⟨#[]⟩) (block_setCell (k := 2) (v := .int .i64 0) (block_setCell (k := 1) (v := .bool false) (block_setCell (k := 0) (v := .int .i64 0) H21.out)))))) rfl
    have HZ6 := (block_set_other (a := ⟨w.heap.size, 5, none⟩) (u := .slice none 0 0) (block_set_other (a := ⟨w.heap.size, 4, none⟩) (u := .int .i64 0) (block_set_other (a := ⟨w.heap.size, 3, none⟩) (u := .string ⟨#[]⟩) (block_set_other (a := ⟨w.heap.size, 2, none⟩) (u := .int .i64 0) (block_set_other (a := ⟨w.heap.size, 1, none⟩) (u := .bool false) (block_set_other (a := ⟨w.heap.size, 0, none⟩) (u := .int .i64 0) H31.out (by first | (simp; done) | (simp; omega))) (by first | (simp; done) | (simp; omega))) (by first | (simp; done) | (simp; omega))) (by first | (simp; done) | (simp; omega))) (by first | (simp; done) | (simp; omega))) (by first | (simp; done) | (simp; omega)))
    have HB6 := (Below.setCell (Below.setCell (Below.setCell (Below.setCell (Below.setCell (Below.setCell HB1.out (p := ⟨w.heap.size, 0, none⟩) (Nat.le_refl _) (.int .i64 0)) (p := ⟨w.heap.size, 1, none⟩) (Nat.le_refl _) (.bool false)) (p := ⟨w.heap.size, 2, none⟩) (Nat.le_refl _) (.int .i64 0)) (p := ⟨w.heap.size, 3, none⟩) (Nat.le_refl _) (.string ⟨#[]⟩)) (p := ⟨w.heap.size, 4, none⟩) (Nat.le_refl _) (.int .i64 0)) (p := ⟨w.heap.size, 5, none⟩) (Nat.le_refl _) (.slice none 0 0))
    generalize (World.setCell (World.setCell (World.setCell (World.setCell (World.setCell (World.setCell w1 ⟨w.heap.size, 0, none⟩ (.int .i64 0)) ⟨w.heap.size, 1, none⟩ (.bool false)) ⟨w.heap.size, 2, none⟩ (.int .i64 0)) ⟨w.heap.size, 3, none⟩ (.string ⟨#[]⟩)) ⟨w.heap.size, 4, none⟩ (.int .i64 0)) ⟨w.heap.size, 5, none⟩ (.slice none 0 0)) = W6 at *
    have HY7 := block_set_other (a := ⟨w.heap.size + 1, 0, none⟩) (u := .int .i64 190) HY6 (by first | (simp; done) | (simp; omega))
    have HZ7 := cells_eq (b := #[.int .i64 190]) (block_setCell (k := 0) (v := .int .i64 190) HZ6) rfl
    have HB7 := Below.setCell HB6 (p := ⟨w.heap.size + 1, 0, none⟩) (by simp) (.int .i64 190)
    generalize World.setCell W6 ⟨w.heap.size + 1, 0, none⟩ (.int .i64 190) = W7 at *
    obtain ⟨⟨k0, k1, k2, k3, k4, k5⟩, -⟩ := cells6 HY7
    have k6 := (cell_of_box HZ7).1
    clear p0 p1 p2 p3 p4 p5 f0 f1 f2 f3 f4 f5 q0 q1 HY6 HZ6 HB6
    have HFin : DecPost s w (.returned (.tuple #[.agg mzA, .int .i64 190])) W7 := ⟨HB7, .inl ⟨HN.out, rfl⟩⟩
    unfold mzA at HFin
    simp [Leaves, settle, results, Tryz.results18, go_sem, k0, k1, k2, k3, k4, k5, k6]
    exact HFin
  · have H21 := Lib.hid ((hg1.block w.heap.size (by omega) (by intro e; injection e with e; omega)).trans H2.out)
    have H31 := Lib.hid ((hg1.block (w.heap.size + 1) (by omega) (by intro e; injection e with e; omega)).trans H3.out)
    have HB1 := Lib.hid (below_only HB.out hg1 (by omega))
    have HRow1 := Lib.hid (SRow.mono hrow (lo' := w.heap.size) (by omega))
    have HDD : Hid (decD s.data.toList = if msgB d = true ∧ enc d = s.data.toList then some d else none) := Lib.hid (by rw [hro] at hn1; unfold decD; rw [hn1])
    have hl1 := hg1.size
    clear hn1 hg1 hrow
    have HFit := Lib.hid hfit; clear hfit
    have HMC : Hid (mcells d A c = [.int .i64 d.id, .bool d.ans, .int .i64 d.code, .string ⟨d.nm.toArray⟩, .int .i64 d.kd, .slice A d.recs.length c]) := Lib.hid rfl
    rw [HMC.out]
    obtain ⟨⟨p0, p1, p2, p3, p4, p5⟩, f0, f1, f2, f3, f4, f5⟩ := cells6 H21.out
    go_upto_region 4 with fail
    have hoff := RRow.off HRow1.out H21.out
    have H22 := Lib.hid (cells_eq (b := #[.int .i64 d.id, .bool d.ans, .int .i64 d.code, .string ⟨d.nm.toArray⟩, .int .i64 d.kd, .slice A d.recs.length c]) (block_setCell (k := 5) (v := .slice A d.recs.length c) (block_setCell (k := 4) (v := .int .i64 d.kd) (block_setCell (k := 3) (v := .string ⟨d.nm.toArray⟩) (block_setCell (k := 2) (v := .int .i64 d.code) (block_setCell (k := 1) (v := .bool d.ans) (block_setCell (k := 0) (v := .int .i64 d.id) H21.out)))))) rfl)
    have H32 := Lib.hid (block_set_other (a := ⟨w.heap.size, 5, none⟩) (u := .slice A d.recs.length c) (block_set_other (a := ⟨w.heap.size, 4, none⟩) (u := .int .i64 d.kd) (block_set_other (a := ⟨w.heap.size, 3, none⟩) (u := .string ⟨d.nm.toArray⟩) (block_set_other (a := ⟨w.heap.size, 2, none⟩) (u := .int .i64 d.code) (block_set_other (a := ⟨w.heap.size, 1, none⟩) (u := .bool d.ans) (block_set_other (a := ⟨w.heap.size, 0, none⟩) (u := .int .i64 d.id) H31.out (by first | (simp; done) | (simp; omega))) (by first | (simp; done) | (simp; omega))) (by first | (simp; done) | (simp; omega))) (by first | (simp; done) | (simp; omega))) (by first | (simp; done) | (simp; omega))) (by first | (simp; done) | (simp; omega)))
    have HB2 := Lib.hid (Below.setCell (Below.setCell (Below.setCell (Below.setCell (Below.setCell (Below.setCell HB1.out (p := ⟨w.heap.size, 0, none⟩) (Nat.le_refl _) (.int .i64 d.id)) (p := ⟨w.heap.size, 1, none⟩) (Nat.le_refl _) (.bool d.ans)) (p := ⟨w.heap.size, 2, none⟩) (Nat.le_refl _) (.int .i64 d.code)) (p := ⟨w.heap.size, 3, none⟩) (Nat.le_refl _) (.string ⟨d.nm.toArray⟩)) (p := ⟨w.heap.size, 4, none⟩) (Nat.le_refl _) (.int .i64 d.kd)) (p := ⟨w.heap.size, 5, none⟩) (Nat.le_refl _) (.slice A d.recs.length c))
    have HRow2 : Hid (RRow (World.setCell (World.setCell (World.setCell (World.setCell (World.setCell (World.setCell w1 ⟨w.heap.size, 0, none⟩ (.int .i64 d.id)) ⟨w.heap.size, 1, none⟩ (.bool d.ans)) ⟨w.heap.size, 2, none⟩ (.int .i64 d.code)) ⟨w.heap.size, 3, none⟩ (.string ⟨d.nm.toArray⟩)) ⟨w.heap.size, 4, none⟩ (.int .i64 d.kd)) ⟨w.heap.size, 5, none⟩ (.slice A d.recs.length c)) w.heap.size A c d.recs) := Lib.hid (SRow.kept HRow1.out (fun x hx => by have hne : w.heap.size ≠ x.block := fun e => hoff ⟨x, hx, e.symm⟩; simp [World.setCell, Array.getElem?_modify, hne]))
    clear hoff
    generalize (World.setCell (World.setCell (World.setCell (World.setCell (World.setCell (World.setCell w1 ⟨w.heap.size, 0, none⟩ (.int .i64 d.id)) ⟨w.heap.size, 1, none⟩ (.bool d.ans)) ⟨w.heap.size, 2, none⟩ (.int .i64 d.code)) ⟨w.heap.size, 3, none⟩ (.string ⟨d.nm.toArray⟩)) ⟨w.heap.size, 4, none⟩ (.int .i64 d.kd)) ⟨w.heap.size, 5, none⟩ (.slice A d.recs.length c)) = w2 at *
    clear p0 p1 p2 p3 p4 p5 f0 f1 f2 f3 f4 f5 H21 H31 HB1 HRow1
    by_cases hb : msgB d = true
    · have HEn : Hid (Calls Tryz.prog 7 #[.agg (mcells d A c).toArray] w2 fun e w' => e = .returned (.tuple #[.string ⟨(enc d).toArray⟩, .int .i64 0]) ∧ Below w2.heap.size w2 w') := Lib.hid (encode_ok d A c _ w2 HFit.out HRow2.out hb)
      rw [HMC.out] at HEn
      obtain ⟨⟨p0, p1, p2, p3, p4, p5⟩, -⟩ := cells6 H22.out
      go_wp2_with fail
      refine HEn.out.mono ?_
      rintro e w3 ⟨rfl, hb3⟩
      have H23 := Lib.hid (bblock hb3 H22.out); have H33 := Lib.hid (bblock hb3 H32.out); have HB3 := Lib.hid (below_call HB2.out hb3); have HRow3 := Lib.hid (HRow2.out.below hb3)
      clear p0 p1 p2 p3 p4 p5 hb3 H22 H32 HB2 HRow2 HEn
      by_cases he : enc d = s.data.toList
      · have HDD2 : Hid (decD s.data.toList = some d) := Lib.hid (by rw [HDD.out, if_pos ⟨hb, he⟩])
        have hq : ((⟨(enc d).toArray⟩ : ByteArray).toList == s.toList) = true := by rw [beq_iff_eq, he, ← ba_self]
        have HQ := Lib.hid he; clear he
        generalize (⟨(enc d).toArray⟩ : ByteArray) = t at *
        obtain ⟨⟨p0, p1, p2, p3, p4, p5⟩, f0, f1, f2, f3, f4, f5⟩ := cells6 H23.out
        obtain ⟨q0, q1⟩ := cell_of_box H33.out
        go_wp2_with fail
        refine leaves_cons (f := 65) (args := #[.pointer (some ⟨w.heap.size, 0, none⟩), .pointer (some ⟨w.heap.size + 1, 0, none⟩)]) (by simp) (by simp [go_sem]) ?_
        refine (catch_idle _ _ _).mono ?_
        rintro e u' w'' ⟨rfl, rfl, rfl⟩
        have hoff := RRow.off HRow3.out H23.out
        have H24 := Lib.hid (cells_eq (b := #[.int .i64 d.id, .bool d.ans, .int .i64 d.code, .string ⟨d.nm.toArray⟩, .int .i64 d.kd, .slice A d.recs.length c]) (block_setCell (k := 5) (v := .slice A d.recs.length c) (block_setCell (k := 4) (v := .int .i64 d.kd) (block_setCell (k := 3) (v := .string ⟨d.nm.toArray⟩) (block_setCell (k := 2) (v := .int .i64 d.code) (block_setCell (k := 1) (v := .bool d.ans) (block_setCell (k := 0) (v := .int .i64 d.id) H23.out)))))) rfl)
        have H34 := Lib.hid (block_set_other (a := ⟨w.heap.size, 5, none⟩) (u := .slice A d.recs.length c) (block_set_other (a := ⟨w.heap.size, 4, none⟩) (u := .int .i64 d.kd) (block_set_other (a := ⟨w.heap.size, 3, none⟩) (u := .string ⟨d.nm.toArray⟩) (block_set_other (a := ⟨w.heap.size, 2, none⟩) (u := .int .i64 d.code) (block_set_other (a := ⟨w.heap.size, 1, none⟩) (u := .bool d.ans) (block_set_other (a := ⟨w.heap.size, 0, none⟩) (u := .int .i64 d.id) H33.out (by first | (simp; done) | (simp; omega))) (by first | (simp; done) | (simp; omega))) (by first | (simp; done) | (simp; omega))) (by first | (simp; done) | (simp; omega))) (by first | (simp; done) | (simp; omega))) (by first | (simp; done) | (simp; omega)))
        have HB4 := Lib.hid (Below.setCell (Below.setCell (Below.setCell (Below.setCell (Below.setCell (Below.setCell HB3.out (p := ⟨w.heap.size, 0, none⟩) (Nat.le_refl _) (.int .i64 d.id)) (p := ⟨w.heap.size, 1, none⟩) (Nat.le_refl _) (.bool d.ans)) (p := ⟨w.heap.size, 2, none⟩) (Nat.le_refl _) (.int .i64 d.code)) (p := ⟨w.heap.size, 3, none⟩) (Nat.le_refl _) (.string ⟨d.nm.toArray⟩)) (p := ⟨w.heap.size, 4, none⟩) (Nat.le_refl _) (.int .i64 d.kd)) (p := ⟨w.heap.size, 5, none⟩) (Nat.le_refl _) (.slice A d.recs.length c))
        have HRow4 : Hid (RRow (World.setCell (World.setCell (World.setCell (World.setCell (World.setCell (World.setCell w3 ⟨w.heap.size, 0, none⟩ (.int .i64 d.id)) ⟨w.heap.size, 1, none⟩ (.bool d.ans)) ⟨w.heap.size, 2, none⟩ (.int .i64 d.code)) ⟨w.heap.size, 3, none⟩ (.string ⟨d.nm.toArray⟩)) ⟨w.heap.size, 4, none⟩ (.int .i64 d.kd)) ⟨w.heap.size, 5, none⟩ (.slice A d.recs.length c)) w.heap.size A c d.recs) := Lib.hid (SRow.kept HRow3.out (fun x hx => by have hne : w.heap.size ≠ x.block := fun e => hoff ⟨x, hx, e.symm⟩; simp [World.setCell, Array.getElem?_modify, hne]))
        clear hoff
        generalize (World.setCell (World.setCell (World.setCell (World.setCell (World.setCell (World.setCell w3 ⟨w.heap.size, 0, none⟩ (.int .i64 d.id)) ⟨w.heap.size, 1, none⟩ (.bool d.ans)) ⟨w.heap.size, 2, none⟩ (.int .i64 d.code)) ⟨w.heap.size, 3, none⟩ (.string ⟨d.nm.toArray⟩)) ⟨w.heap.size, 4, none⟩ (.int .i64 d.kd)) ⟨w.heap.size, 5, none⟩ (.slice A d.recs.length c)) = w4 at *
        have hoff := RRow.off HRow4.out H24.out
        have HY7 := block_set_other (a := ⟨w.heap.size + 1, 0, none⟩) (u := .int .i64 0) H24.out (by first | (simp; done) | (simp; omega))
        have HZ7 := cells_eq (b := #[.int .i64 0]) (block_setCell (k := 0) (v := .int .i64 0) H34.out) rfl
        have HB7 := Below.setCell HB4.out (p := ⟨w.heap.size + 1, 0, none⟩) (by simp) (.int .i64 0)
        have hoff3 := row_off HRow4.out H34.out (by decide)
        have HRow7 : RRow (World.setCell w4 ⟨w.heap.size + 1, 0, none⟩ (.int .i64 0)) w.heap.size A c d.recs := SRow.kept HRow4.out (fun x hx => by have hne : w.heap.size + 1 ≠ x.block := fun e => hoff3 ⟨x, hx, e.symm⟩; simp [World.setCell, Array.getElem?_modify, hne])
        generalize World.setCell w4 ⟨w.heap.size + 1, 0, none⟩ (.int .i64 0) = W7 at *
        obtain ⟨⟨k0, k1, k2, k3, k4, k5⟩, -⟩ := cells6 HY7
        have k6 := (cell_of_box HZ7).1
        clear p0 p1 p2 p3 p4 p5 f0 f1 f2 f3 f4 f5 q0 q1
        have HFin : DecPost s w (.returned (.tuple #[.agg (mcells d A c).toArray, .int .i64 0])) W7 := ⟨HB7, .inr ⟨d, A, c, HDD2.out, rfl, HFit.out, HRow7⟩⟩
        rw [HMC.out] at HFin
        simp [Leaves, settle, results, Tryz.results18, go_sem, k0, k1, k2, k3, k4, k5, k6]
        exact HFin
      · have HN : Hid (decD s.data.toList = none) := Lib.hid (by rw [HDD.out, if_neg (fun q => he q.2)])
        have hq : ((⟨(enc d).toArray⟩ : ByteArray).toList == s.toList) = false := by rw [beq_eq_false_iff_ne, ByteArray.toList_eq, ByteArray.toList_eq]; exact he
        clear he
        generalize (⟨(enc d).toArray⟩ : ByteArray) = t at *
        go_wp2_with fail
        obtain ⟨⟨p0, p1, p2, p3, p4, p5⟩, f0, f1, f2, f3, f4, f5⟩ := cells6 H23.out
        obtain ⟨q0, q1⟩ := cell_of_box H33.out
        refine leaves_cons (f := 65) (args := #[.pointer (some ⟨w.heap.size, 0, none⟩), .pointer (some ⟨w.heap.size + 1, 0, none⟩)]) (by simp) (by simp [go_sem]) ?_
        refine (catch_panicking _ _ _ _ _ _ _ _ _ _ _ p0 f0 p1 f1 p2 f2 p3 f3 p4 f4 p5 f5 q0 q1).mono ?_
        rintro e u' w'' ⟨rfl, rfl, rfl⟩
        have HY6 := cells_eq (b := #[.int .i64 0, .bool false, .int .i64 0, .string ⟨#[]⟩, .int .i64 0, .slice none 0 0]) (block_setCell (k := 5) (v := .slice none 0 0) (block_setCell (k := 4) (v := .int .i64 0) (block_setCell (k := 3) (v := .string ⟨#[]⟩) (block_setCell (k := 2) (v := .int .i64 0) (block_setCell (k := 1) (v := .bool false) (block_setCell (k := 0) (v := .int .i64 0) H23.out)))))) rfl
        have HZ6 := (block_set_other (a := ⟨w.heap.size, 5, none⟩) (u := .slice none 0 0) (block_set_other (a := ⟨w.heap.size, 4, none⟩) (u := .int .i64 0) (block_set_other (a := ⟨w.heap.size, 3, none⟩) (u := .string ⟨#[]⟩) (block_set_other (a := ⟨w.heap.size, 2, none⟩) (u := .int .i64 0) (block_set_other (a := ⟨w.heap.size, 1, none⟩) (u := .bool false) (block_set_other (a := ⟨w.heap.size, 0, none⟩) (u := .int .i64 0) H33.out (by first | (simp; done) | (simp; omega))) (by first | (simp; done) | (simp; omega))) (by first | (simp; done) | (simp; omega))) (by first | (simp; done) | (simp; omega))) (by first | (simp; done) | (simp; omega))) (by first | (simp; done) | (simp; omega)))
        have HB6 := (Below.setCell (Below.setCell (Below.setCell (Below.setCell (Below.setCell (Below.setCell HB3.out (p := ⟨w.heap.size, 0, none⟩) (Nat.le_refl _) (.int .i64 0)) (p := ⟨w.heap.size, 1, none⟩) (Nat.le_refl _) (.bool false)) (p := ⟨w.heap.size, 2, none⟩) (Nat.le_refl _) (.int .i64 0)) (p := ⟨w.heap.size, 3, none⟩) (Nat.le_refl _) (.string ⟨#[]⟩)) (p := ⟨w.heap.size, 4, none⟩) (Nat.le_refl _) (.int .i64 0)) (p := ⟨w.heap.size, 5, none⟩) (Nat.le_refl _) (.slice none 0 0))
        generalize (World.setCell (World.setCell (World.setCell (World.setCell (World.setCell (World.setCell w3 ⟨w.heap.size, 0, none⟩ (.int .i64 0)) ⟨w.heap.size, 1, none⟩ (.bool false)) ⟨w.heap.size, 2, none⟩ (.int .i64 0)) ⟨w.heap.size, 3, none⟩ (.string ⟨#[]⟩)) ⟨w.heap.size, 4, none⟩ (.int .i64 0)) ⟨w.heap.size, 5, none⟩ (.slice none 0 0)) = W6 at *
        have HY7 := block_set_other (a := ⟨w.heap.size + 1, 0, none⟩) (u := .int .i64 190) HY6 (by first | (simp; done) | (simp; omega))
        have HZ7 := cells_eq (b := #[.int .i64 190]) (block_setCell (k := 0) (v := .int .i64 190) HZ6) rfl
        have HB7 := Below.setCell HB6 (p := ⟨w.heap.size + 1, 0, none⟩) (by simp) (.int .i64 190)
        generalize World.setCell W6 ⟨w.heap.size + 1, 0, none⟩ (.int .i64 190) = W7 at *
        obtain ⟨⟨k0, k1, k2, k3, k4, k5⟩, -⟩ := cells6 HY7
        have k6 := (cell_of_box HZ7).1
        clear p0 p1 p2 p3 p4 p5 f0 f1 f2 f3 f4 f5 q0 q1 HY6 HZ6 HB6
        have HFin : DecPost s w (.returned (.tuple #[.agg mzA, .int .i64 190])) W7 := ⟨HB7, .inl ⟨HN.out, rfl⟩⟩
        unfold mzA at HFin
        simp [Leaves, settle, results, Tryz.results18, go_sem, k0, k1, k2, k3, k4, k5, k6]
        exact HFin
    · have hbf : msgB d = false := by simpa using hb
      have HN : Hid (decD s.data.toList = none) := Lib.hid (by rw [HDD.out, if_neg (fun q => hb q.1)])
      have HEn : Hid (Calls Tryz.prog 7 #[.agg (mcells d A c).toArray] w2 fun e w' => e = .returned (.tuple #[.string ⟨#[]⟩, .int .i64 190]) ∧ Below w2.heap.size w2 w') := Lib.hid (encode_no d A c _ w2 HFit.out HRow2.out hbf)
      rw [HMC.out] at HEn
      obtain ⟨⟨p0, p1, p2, p3, p4, p5⟩, -⟩ := cells6 H22.out
      go_wp2_with fail
      refine HEn.out.mono ?_
      rintro e w3 ⟨rfl, hb3⟩
      have H23 := Lib.hid (bblock hb3 H22.out); have H33 := Lib.hid (bblock hb3 H32.out); have HB3 := Lib.hid (below_call HB2.out hb3)
      clear p0 p1 p2 p3 p4 p5 hb3 H22 H32 HB2 HRow2 HEn
      go_wp2_with fail
      obtain ⟨⟨p0, p1, p2, p3, p4, p5⟩, f0, f1, f2, f3, f4, f5⟩ := cells6 H23.out
      obtain ⟨q0, q1⟩ := cell_of_box H33.out
      refine leaves_cons (f := 65) (args := #[.pointer (some ⟨w.heap.size, 0, none⟩), .pointer (some ⟨w.heap.size + 1, 0, none⟩)]) (by simp) (by simp [go_sem]) ?_
      refine (catch_panicking _ _ _ _ _ _ _ _ _ _ _ p0 f0 p1 f1 p2 f2 p3 f3 p4 f4 p5 f5 q0 q1).mono ?_
      rintro e u' w'' ⟨rfl, rfl, rfl⟩
      have HY6 := cells_eq (b := #[.int .i64 0, .bool false, .int .i64 0, .string ⟨#[]⟩, .int .i64 0, .slice none 0 0]) (block_setCell (k := 5) (v := .slice none 0 0) (block_setCell (k := 4) (v := .int .i64 0) (block_setCell (k := 3) (v := .string ⟨#[]⟩) (block_setCell (k := 2) (v := .int .i64 0) (block_setCell (k := 1) (v := .bool false) (block_setCell (k := 0) (v := .int .i64 0) H23.out)))))) rfl
      have HZ6 := (block_set_other (a := ⟨w.heap.size, 5, none⟩) (u := .slice none 0 0) (block_set_other (a := ⟨w.heap.size, 4, none⟩) (u := .int .i64 0) (block_set_other (a := ⟨w.heap.size, 3, none⟩) (u := .string ⟨#[]⟩) (block_set_other (a := ⟨w.heap.size, 2, none⟩) (u := .int .i64 0) (block_set_other (a := ⟨w.heap.size, 1, none⟩) (u := .bool false) (block_set_other (a := ⟨w.heap.size, 0, none⟩) (u := .int .i64 0) H33.out (by first | (simp; done) | (simp; omega))) (by first | (simp; done) | (simp; omega))) (by first | (simp; done) | (simp; omega))) (by first | (simp; done) | (simp; omega))) (by first | (simp; done) | (simp; omega))) (by first | (simp; done) | (simp; omega)))
      have HB6 := (Below.setCell (Below.setCell (Below.setCell (Below.setCell (Below.setCell (Below.setCell HB3.out (p := ⟨w.heap.size, 0, none⟩) (Nat.le_refl _) (.int .i64 0)) (p := ⟨w.heap.size, 1, none⟩) (Nat.le_refl _) (.bool false)) (p := ⟨w.heap.size, 2, none⟩) (Nat.le_refl _) (.int .i64 0)) (p := ⟨w.heap.size, 3, none⟩) (Nat.le_refl _) (.string ⟨#[]⟩)) (p := ⟨w.heap.size, 4, none⟩) (Nat.le_refl _) (.int .i64 0)) (p := ⟨w.heap.size, 5, none⟩) (Nat.le_refl _) (.slice none 0 0))
      generalize (World.setCell (World.setCell (World.setCell (World.setCell (World.setCell (World.setCell w3 ⟨w.heap.size, 0, none⟩ (.int .i64 0)) ⟨w.heap.size, 1, none⟩ (.bool false)) ⟨w.heap.size, 2, none⟩ (.int .i64 0)) ⟨w.heap.size, 3, none⟩ (.string ⟨#[]⟩)) ⟨w.heap.size, 4, none⟩ (.int .i64 0)) ⟨w.heap.size, 5, none⟩ (.slice none 0 0)) = W6 at *
      have HY7 := block_set_other (a := ⟨w.heap.size + 1, 0, none⟩) (u := .int .i64 190) HY6 (by first | (simp; done) | (simp; omega))
      have HZ7 := cells_eq (b := #[.int .i64 190]) (block_setCell (k := 0) (v := .int .i64 190) HZ6) rfl
      have HB7 := Below.setCell HB6 (p := ⟨w.heap.size + 1, 0, none⟩) (by simp) (.int .i64 190)
      generalize World.setCell W6 ⟨w.heap.size + 1, 0, none⟩ (.int .i64 190) = W7 at *
      obtain ⟨⟨k0, k1, k2, k3, k4, k5⟩, -⟩ := cells6 HY7
      have k6 := (cell_of_box HZ7).1
      clear p0 p1 p2 p3 p4 p5 f0 f1 f2 f3 f4 f5 q0 q1 HY6 HZ6 HB6
      have HFin : DecPost s w (.returned (.tuple #[.agg mzA, .int .i64 190])) W7 := ⟨HB7, .inl ⟨HN.out, rfl⟩⟩
      unfold mzA at HFin
      simp [Leaves, settle, results, Tryz.results18, go_sem, k0, k1, k2, k3, k4, k5, k6]
      exact HFin
end Go.Proofs.YtmgjcjacoegocaaGreatDoor.Dn
