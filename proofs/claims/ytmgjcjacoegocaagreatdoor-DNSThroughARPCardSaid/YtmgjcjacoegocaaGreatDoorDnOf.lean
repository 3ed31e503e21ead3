/-
  The contract of chapter 19's DnsOf.
-/
import Derived.Test.YtmgjcjacoegocaaGreatDoorDnGen
import Derived.Test.YtmgjcjacoegocaaGreatDoorHeld
import Derived.Test.YtmgjcjacoegocaaGreatDoorDnRg
namespace Go.Proofs.YtmgjcjacoegocaaGreatDoor.Dn
set_option maxRecDepth 100000
open Go.RowKit Go.Proofs.YtmgjcjacoegocaaGreatDoor.Wire Go.Proofs.YtmgjcjacoegocaaGreatDoor.Rw

structure DR where
  id : Int
  ans : Bool
  code : Int
  nm : Int
  alias : Bool
  recs : List RR
def DR.ok (x : DR) : Prop := In64 x.id ∧ In64 x.code ∧ In64 x.nm
def dnsOf (x : DR) : Msg := ⟨pick x.id 65536, x.ans, if x.ans then pick x.code 3 else 0, nameOf x.nm, if x.alias then 2 else 1, if x.ans then (x.recs.take 8).map recOf else []⟩
theorem dnsOf_ok (x : DR) : msgB (dnsOf x) = true := by
  rw [msgB_iff]
  have h1 := pick_lt x.id 65536 (by omega)
  have h2 := pick_lt x.code 3 (by omega)
  unfold dnsOf
  refine ⟨⟨h1.1, by show pick x.id 65536 ≤ 65535; omega, ?_, ?_⟩, nameOf_ok _, ?_, ?_, ?_, ?_⟩
  · dsimp only; split <;> omega
  · dsimp only; split <;> omega
  · dsimp only; cases x.alias <;> simp
  · dsimp only; split
    · simp; omega
    · simp
  · dsimp only; split
    · rw [List.all_eq_true]
      intro r hr
      obtain ⟨y, -, rfl⟩ := List.mem_map.1 hr
      exact recOf_ok y
    · rfl
  · dsimp only; cases x.ans <;> simp
theorem rw_ne (vs : Array Value) (c : Array Value) : (Obj.cells vs 24 (0, 0)) ≠ .cells c 92 (0, 0) := by
  intro e
  injection e with _ e2
  exact absurd e2 (by decide)
theorem RRow.offx {W : World} {lo : Nat} {A : Option Addr} {c : Nat} {l : List Rec} (h : RRow W lo A c l) {q : Nat} {vs : Array Value} (hq : W.heap[q]? = some (.cells vs 24 (0, 0))) : ¬ BK A q := by
  rintro ⟨x, rfl, rfl⟩
  rcases h.2 with ⟨e, -⟩ | ⟨g, cap, cur, e, -, hg, -⟩
  · cases e
  · injection e with e
    cases e
    rw [hg] at hq
    injection hq with hq
    exact rw_ne _ _ hq.symm
structure OfI (w : World) (id code : Int) (nm : List UInt8) (kd : Int) (XO : Obj) (l : List Rec) (k : Nat) (A : Option Addr) (c a : Nat) (W : World) : Prop where
  x : W.heap[w.heap.size]? = some XO
  z : W.heap[w.heap.size + 1]? = some (.cells #[.int .i64 0, .bool false, .int .i64 0, .string ⟨#[]⟩, .int .i64 0, .slice none 0 0] 39 (0, 0))
  d : W.heap[a]? = some (.cells #[.int .i64 id, .bool true, .int .i64 code, .string ⟨nm.toArray⟩, .int .i64 kd, .slice A k c] 39 (0, 0))
  row : RRow W w.heap.size A c l
  len : l.length = k
  bl : Below w.heap.size w W
theorem take_next (l : List RR) (k : Nat) (y : RR) (h : l[k]? = some y) : (l.take (k + 1)).map recOf = (l.take k).map recOf ++ [recOf y] := by
  rw [List.take_add_one, h]; simp
set_option maxHeartbeats 16000000 in
theorem dnsOf_any (x : DR) (Ax : Option Addr) (n cx : Nat) (w : World) (hx : x.ok) (hr : RArg w Ax n x.recs) :
    Calls Tryz.prog 8 #[.agg #[.int .i64 x.id, .bool x.ans, .int .i64 x.code, .int .i64 x.nm, .bool x.alias, .slice Ax n cx]] w fun e w' => ∃ A c, e = .returned (.agg (mcells (dnsOf x) A c).toArray) ∧ RRow w' w.heap.size A c (dnsOf x).recs ∧ Below w.heap.size w w' := by
  obtain ⟨hx1, hx2, hx3⟩ := hx
  have HN := Lib.hid fun W => nameOf_any x.nm W hx3
  have HI := Lib.hid fun W => pick_any x.id 65536 W hx1 (by omega) (by omega)
  have HC := Lib.hid fun W => pick_any x.code 3 W hx2 (by omega) (by omega)
  have HRA := Lib.hid hr
  have hnx := hr.1
  have hnm := hr.size
  clear hr
  have HPost : Hid (∀ (d : Msg) (e : Ending) (w' : World), d = dnsOf x → (∃ A c, e = .returned (.agg (mcells d A c).toArray) ∧ RRow w' w.heap.size A c d.recs ∧ Below w.heap.size w w') → (∃ A c, e = .returned (.agg (mcells (dnsOf x) A c).toArray) ∧ RRow w' w.heap.size A c (dnsOf x).recs ∧ Below w.heap.size w w')) := Lib.hid fun d e w' h h2 => by subst h; exact h2
  have HEq : Hid (dnsOf x = ⟨pick x.id 65536, x.ans, if x.ans then pick x.code 3 else 0, nameOf x.nm, if x.alias then 2 else 1, if x.ans then (x.recs.take 8).map recOf else []⟩) := Lib.hid rfl
  generalize dnsOf x = dx at *
  have HX := Lib.hid (block_alloc (alloc_new w (.cells #[.int .i64 x.id, .bool x.ans, .int .i64 x.code, .int .i64 x.nm, .bool x.alias, .slice Ax n cx] 24)) (.cells #[.int .i64 0, .bool false, .int .i64 0, .string ⟨#[]⟩, .int .i64 0, .slice none 0 0] 39))
  have HZ := Lib.hid (alloc_new' (w.alloc (.cells #[.int .i64 x.id, .bool x.ans, .int .i64 x.code, .int .i64 x.nm, .bool x.alias, .slice Ax n cx] 24)) (.cells #[.int .i64 0, .bool false, .int .i64 0, .string ⟨#[]⟩, .int .i64 0, .slice none 0 0] 39) (w.heap.size + 1) (by simp))
  have HB := Lib.hid (below_alloc (o := .cells #[.int .i64 0, .bool false, .int .i64 0, .string ⟨#[]⟩, .int .i64 0, .slice none 0 0] 39) (below_alloc (o := .cells #[.int .i64 x.id, .bool x.ans, .int .i64 x.code, .int .i64 x.nm, .bool x.alias, .slice Ax n cx] 24) (Below.refl w.heap.size w)))
  generalize nameOf x.nm = N1 at *
  generalize pick x.id 65536 = id1 at *
  generalize pick x.code 3 = c1 at *
  have hsz : w.heap.size + 2 ≤ ((w.alloc (.cells #[.int .i64 x.id, .bool x.ans, .int .i64 x.code, .int .i64 x.nm, .bool x.alias, .slice Ax n cx] 24)).alloc (.cells #[.int .i64 0, .bool false, .int .i64 0, .string ⟨#[]⟩, .int .i64 0, .slice none 0 0] 39)).heap.size := by simp
  go_enter Tryz.func8, Tryz.ntmps8
  go_upto_region 1 with fail
  generalize (w.alloc (.cells #[.int .i64 x.id, .bool x.ans, .int .i64 x.code, .int .i64 x.nm, .bool x.alias, .slice Ax n cx] 24)).alloc (.cells #[.int .i64 0, .bool false, .int .i64 0, .string ⟨#[]⟩, .int .i64 0, .slice none 0 0] 39) = W0 at *
  go_cut [3] (fun s3 wx => ∃ a, s3 = .pointer (some ⟨a, 0, none⟩) ∧ w.heap.size + 1 < a ∧ wx.heap[a]? = some (.cells #[.int .i64 id1, .bool x.ans, .int .i64 0, .string ⟨N1.toArray⟩, .int .i64 1, .slice none 0 0] 39 (0, 0)) ∧ wx.heap[w.heap.size]? = some (.cells #[.int .i64 x.id, .bool x.ans, .int .i64 x.code, .int .i64 x.nm, .bool x.alias, .slice Ax n cx] 24 (0, 0)) ∧ wx.heap[w.heap.size + 1]? = some (.cells #[.int .i64 0, .bool false, .int .i64 0, .string ⟨#[]⟩, .int .i64 0, .slice none 0 0] 39 (0, 0)) ∧ Below w.heap.size w wx)
  case first =>
    refine wp_region_held_drew (S := fun w' => w'.cell? ⟨w.heap.size, 0, none⟩ = some (.int .i64 x.id) ∧ w'.cell? ⟨w.heap.size, 1, none⟩ = some (.bool x.ans) ∧ w'.cell? ⟨w.heap.size, 3, none⟩ = some (.int .i64 x.nm)) (by kernel_rfl) (⟨(cell_of_block (k := 0) HX.out rfl).1, (cell_of_block (k := 1) HX.out rfl).1, (cell_of_block (k := 3) HX.out rfl).1⟩) ?_
    intro hS
    refine wpAnyH_take (i := 0) (oi := ⟨some 5, _, _, _, _, _⟩) (v := ?vt1x0) rfl (by kernel_rfl) (by kernel_rfl) (by kernel_rfl) (fun _ _ _ h => h) (Or.inl ⟨by rfl, ?hyt1x0⟩) (by exact hS) ?ret1x0
    case hyt1x0 => (intro ww hSw; (try dsimp only at hSw); go_simp; first | done | with_reducible rfl)
    try simp only [Act.put, List.setIfInBounds_toArray, List.set_cons_zero, List.set_cons_succ]
    refine wpAnyH_take (i := 1) (oi := ⟨some 6, _, _, _, _, _⟩) (v := ?vt1x1) rfl (by kernel_rfl) (by kernel_rfl) (by kernel_rfl) (fun _ _ _ h => h) (Or.inl ⟨by rfl, ?hyt1x1⟩) (by exact hS) ?ret1x1
    case hyt1x1 => (intro ww hSw; (try dsimp only at hSw); go_simp; first | done | with_reducible rfl)
    try simp only [Act.put, List.setIfInBounds_toArray, List.set_cons_zero, List.set_cons_succ]
    refine wpAnyH_take (i := 3) (oi := ⟨some 8, _, _, _, _, _⟩) (v := ?vt1x3) rfl (by kernel_rfl) (by kernel_rfl) (by kernel_rfl) (fun _ _ _ h => h) (Or.inl ⟨by rfl, ?hyt1x3⟩) (by exact hS) ?ret1x3
    case hyt1x3 => (intro ww hSw; (try dsimp only at hSw); go_simp; first | done | with_reducible rfl)
    try simp only [Act.put, List.setIfInBounds_toArray, List.set_cons_zero, List.set_cons_succ]
    refine wpAnyH_take (i := 4) (oi := ⟨some 9, _, _, _, _, _⟩) (v := ?vt1x4) rfl (by kernel_rfl) (by kernel_rfl) (by kernel_rfl) (fun _ _ _ h => h) (Or.inl ⟨by rfl, ?hyt1x4⟩) (by exact hS) ?ret1x4
    case hyt1x4 => (intro ww hSw; (try dsimp only at hSw); go_simp; first | done | with_reducible rfl)
    try simp only [Act.put, List.setIfInBounds_toArray, List.set_cons_zero, List.set_cons_succ]
    refine wpAnyH_take (i := 5) (oi := ⟨some 10, _, _, _, _, _⟩) (v := ?vt1x5) rfl (by kernel_rfl) (by kernel_rfl) (by kernel_rfl) (fun _ _ _ h => h) (Or.inl ⟨by rfl, ?hyt1x5⟩) (by exact hS) ?ret1x5
    case hyt1x5 => (intro ww hSw; (try dsimp only at hSw); go_simp; first | done | with_reducible rfl)
    try simp only [Act.put, List.setIfInBounds_toArray, List.set_cons_zero, List.set_cons_succ]
    refine wpAnyH_take (i := 6) (oi := ⟨some 11, _, _, _, _, _⟩) (v := ?vt1x6) rfl (by kernel_rfl) (by kernel_rfl) (by kernel_rfl) (fun _ _ _ h => h) (Or.inl ⟨by rfl, ?hyt1x6⟩) (by exact hS) ?ret1x6
    case hyt1x6 => (intro ww hSw; (try dsimp only at hSw); go_simp; first | done | with_reducible rfl)
    try simp only [Act.put, List.setIfInBounds_toArray, List.set_cons_zero, List.set_cons_succ]
    have HXc : Hid (W0.drew.heap[w.heap.size]? = _) := Lib.hid HX.out; have HZc : Hid (W0.drew.heap[w.heap.size + 1]? = _) := Lib.hid HZ.out; have HBc : Hid (Below w.heap.size w W0.drew) := Lib.hid HB.out.drew; have hsc : w.heap.size + 2 ≤ W0.drew.heap.size := hsz
    generalize W0.drew = wd at *
    refine wpAnyH_ready (rs := [2, 9]) (by kernel_rfl) (by simp) ?_
    refine AllReadyH.cons (o := ⟨some 7, _, _, _, _, _⟩) rfl (fun K2 hK2 => ?sa2) ?mo2
    case sa2 =>
      go_simp
      refine (HI.out _).mono ?_
      rintro e w' ⟨rfl, rfl⟩
      dsimp only
      refine hK2.out _ _ (⟨(cell_of_block (k := 0) HXc.out rfl).1, (cell_of_block (k := 1) HXc.out rfl).1, (cell_of_block (k := 3) HXc.out rfl).1⟩) (fun h2 => ?_)
      try simp only [Act.put, List.setIfInBounds_toArray, List.set_cons_zero, List.set_cons_succ]
      refine wpAnyH_ready (rs := [7, 9]) (by kernel_rfl) (by simp) ?_
      refine AllReadyH.cons (o := ⟨some 12, _, _, _, _, _⟩) rfl (fun K3 hK3 => ?sa3) ?mo3
      case sa3 =>
        go_simp
        refine (HN.out _).mono ?_
        rintro e w3 ⟨rfl, hb⟩
        dsimp only
        have HXc' := Lib.hid (bblock hb HXc.out); clear HXc; have HXc := HXc'; clear HXc'
        have HZc' := Lib.hid (bblock hb HZc.out); clear HZc; have HZc := HZc'; clear HZc'
        have HBc' := Lib.hid (below_call HBc.out hb); clear HBc; have HBc := HBc'; clear HBc'; have hsc' := Nat.le_trans hsc hb.size; clear hsc; have hsc := hsc'; clear hsc'
        clear hb
        refine hK3.out _ _ (⟨(cell_of_block (k := 0) HXc.out rfl).1, (cell_of_block (k := 1) HXc.out rfl).1, (cell_of_block (k := 3) HXc.out rfl).1⟩) (fun h3 => ?_)
        try simp only [Act.put, List.setIfInBounds_toArray, List.set_cons_zero, List.set_cons_succ]
        refine wpAnyH_take (i := 8) (oi := ⟨some 13, _, _, _, _, _⟩) (v := ?vt4x8) rfl (by kernel_rfl) (by kernel_rfl) (by kernel_rfl) (fun _ _ _ h => h) (Or.inl ⟨by rfl, ?hyt4x8⟩) (by exact (by exact ⟨(cell_of_block (k := 0) HXc.out rfl).1, (cell_of_block (k := 1) HXc.out rfl).1, (cell_of_block (k := 3) HXc.out rfl).1⟩)) ?ret4x8
        case hyt4x8 => (intro ww hSw; (try dsimp only at hSw); go_simp; first | done | with_reducible rfl)
        try simp only [Act.put, List.setIfInBounds_toArray, List.set_cons_zero, List.set_cons_succ]
        refine wpAnyH_ready (rs := [9]) (by kernel_rfl) (by simp) ?_
        refine AllReadyH.cons (o := ⟨some 3, _, _, _, _, _⟩) rfl (fun K5 hK5 => ?_) AllReadyH.nil
        go_simp
        have HAc := Lib.hid (alloc_new w3 (.cells #[.int .i64 0, .bool false, .int .i64 0, .string ⟨#[]⟩, .int .i64 0, .slice none 0 0] 39))
        have hb := (Below.refl w3.heap.size w3).alloc (Nat.le_refl _) (.cells #[.int .i64 0, .bool false, .int .i64 0, .string ⟨#[]⟩, .int .i64 0, .slice none 0 0] 39)
        have hal : w.heap.size + 1 < w3.heap.size := by omega
        have HXc' := Lib.hid (bblock hb HXc.out); clear HXc; have HXc := HXc'; clear HXc'
        have HZc' := Lib.hid (bblock hb HZc.out); clear HZc; have HZc := HZc'; clear HZc'
        have HBc' := Lib.hid (below_call HBc.out hb); clear HBc; have HBc := HBc'; clear HBc'; have hsc' := Nat.le_trans hsc hb.size; clear hsc; have hsc := hsc'; clear hsc'
        clear hb
        obtain ⟨a, hae⟩ : ∃ a, w3.heap.size = a := ⟨_, rfl⟩
        rw [hae] at HAc hal ⊢
        generalize w3.alloc (.cells #[.int .i64 0, .bool false, .int .i64 0, .string ⟨#[]⟩, .int .i64 0, .slice none 0 0] 39) = w5a at *
        clear hae
        refine hK5.out _ _ (⟨(cell_of_block (k := 0) HXc.out rfl).1, (cell_of_block (k := 1) HXc.out rfl).1, (cell_of_block (k := 3) HXc.out rfl).1⟩) (fun h5 => ?_)
        try simp only [Act.put, List.setIfInBounds_toArray, List.set_cons_zero, List.set_cons_succ]
        refine wpAnyH_ready (rs := [10]) (by kernel_rfl) (by simp) ?_
        refine AllReadyH.cons (o := ⟨none, _, _, _, _, _⟩) rfl (fun K6 hK6 => ?_) AllReadyH.nil
        obtain ⟨⟨p0, p1, p2, p3, p4, p5⟩, f0, f1, f2, f3, f4, f5⟩ := cells6 HAc.out
        go_simp
        have HXn := Lib.hid (block_set_other (a := ⟨a, 5, none⟩) (u := .slice none 0 0) (block_set_other (a := ⟨a, 4, none⟩) (u := .int .i64 1) (block_set_other (a := ⟨a, 3, none⟩) (u := .string ⟨N1.toArray⟩) (block_set_other (a := ⟨a, 2, none⟩) (u := .int .i64 0) (block_set_other (a := ⟨a, 1, none⟩) (u := .bool x.ans) (block_set_other (a := ⟨a, 0, none⟩) (u := .int .i64 id1) HXc.out (by first | (simp; done) | (simp; omega))) (by first | (simp; done) | (simp; omega))) (by first | (simp; done) | (simp; omega))) (by first | (simp; done) | (simp; omega))) (by first | (simp; done) | (simp; omega))) (by first | (simp; done) | (simp; omega))); have HZn := Lib.hid (block_set_other (a := ⟨a, 5, none⟩) (u := .slice none 0 0) (block_set_other (a := ⟨a, 4, none⟩) (u := .int .i64 1) (block_set_other (a := ⟨a, 3, none⟩) (u := .string ⟨N1.toArray⟩) (block_set_other (a := ⟨a, 2, none⟩) (u := .int .i64 0) (block_set_other (a := ⟨a, 1, none⟩) (u := .bool x.ans) (block_set_other (a := ⟨a, 0, none⟩) (u := .int .i64 id1) HZc.out (by first | (simp; done) | (simp; omega))) (by first | (simp; done) | (simp; omega))) (by first | (simp; done) | (simp; omega))) (by first | (simp; done) | (simp; omega))) (by first | (simp; done) | (simp; omega))) (by first | (simp; done) | (simp; omega))); have HBn := Lib.hid (Below.setCell (Below.setCell (Below.setCell (Below.setCell (Below.setCell (Below.setCell HBc.out (p := ⟨a, 0, none⟩) (by show w.heap.size ≤ a; omega) (.int .i64 id1)) (p := ⟨a, 1, none⟩) (by show w.heap.size ≤ a; omega) (.bool x.ans)) (p := ⟨a, 2, none⟩) (by show w.heap.size ≤ a; omega) (.int .i64 0)) (p := ⟨a, 3, none⟩) (by show w.heap.size ≤ a; omega) (.string ⟨N1.toArray⟩)) (p := ⟨a, 4, none⟩) (by show w.heap.size ≤ a; omega) (.int .i64 1)) (p := ⟨a, 5, none⟩) (by show w.heap.size ≤ a; omega) (.slice none 0 0))
        have HAn := Lib.hid (cells_eq (b := #[.int .i64 id1, .bool x.ans, .int .i64 0, .string ⟨N1.toArray⟩, .int .i64 1, .slice none 0 0]) (block_setCell (k := 5) (v := .slice none 0 0) (block_setCell (k := 4) (v := .int .i64 1) (block_setCell (k := 3) (v := .string ⟨N1.toArray⟩) (block_setCell (k := 2) (v := .int .i64 0) (block_setCell (k := 1) (v := .bool x.ans) (block_setCell (k := 0) (v := .int .i64 id1) HAc.out)))))) rfl)
        clear p0 p1 p2 p3 p4 p5 f0 f1 f2 f3 f4 f5
        refine hK6.out _ _ (⟨(cell_of_block (k := 0) HXn.out rfl).1, (cell_of_block (k := 1) HXn.out rfl).1, (cell_of_block (k := 3) HXn.out rfl).1⟩) (fun h6 => ?_)
        try simp only [Act.put, List.setIfInBounds_toArray, List.set_cons_zero, List.set_cons_succ]
        refine wpAnyH_done (by kernel_rfl) ?_ _
        go_wp2_with fail
        go_meet
        exact ⟨a, rfl, hal, HAn.out, HXn.out, HZn.out, HBn.out⟩
      case mo3 =>
        refine AllReadyH.cons (o := ⟨some 3, _, _, _, _, _⟩) rfl (fun K7 hK7 => ?_) AllReadyH.nil
        go_simp
        have HAc := Lib.hid (alloc_new wd (.cells #[.int .i64 0, .bool false, .int .i64 0, .string ⟨#[]⟩, .int .i64 0, .slice none 0 0] 39))
        have hb := (Below.refl wd.heap.size wd).alloc (Nat.le_refl _) (.cells #[.int .i64 0, .bool false, .int .i64 0, .string ⟨#[]⟩, .int .i64 0, .slice none 0 0] 39)
        have hal : w.heap.size + 1 < wd.heap.size := by omega
        have HXc' := Lib.hid (bblock hb HXc.out); clear HXc; have HXc := HXc'; clear HXc'
        have HZc' := Lib.hid (bblock hb HZc.out); clear HZc; have HZc := HZc'; clear HZc'
        have HBc' := Lib.hid (below_call HBc.out hb); clear HBc; have HBc := HBc'; clear HBc'; have hsc' := Nat.le_trans hsc hb.size; clear hsc; have hsc := hsc'; clear hsc'
        clear hb
        obtain ⟨a, hae⟩ : ∃ a, wd.heap.size = a := ⟨_, rfl⟩
        rw [hae] at HAc hal ⊢
        generalize wd.alloc (.cells #[.int .i64 0, .bool false, .int .i64 0, .string ⟨#[]⟩, .int .i64 0, .slice none 0 0] 39) = w7a at *
        clear hae
        refine hK7.out _ _ (⟨(cell_of_block (k := 0) HXc.out rfl).1, (cell_of_block (k := 1) HXc.out rfl).1, (cell_of_block (k := 3) HXc.out rfl).1⟩) (fun h7 => ?_)
        try simp only [Act.put, List.setIfInBounds_toArray, List.set_cons_zero, List.set_cons_succ]
        refine wpAnyH_ready (rs := [7]) (by kernel_rfl) (by simp) ?_
        refine AllReadyH.cons (o := ⟨some 12, _, _, _, _, _⟩) rfl (fun K8 hK8 => ?_) AllReadyH.nil
        go_simp
        refine (HN.out _).mono ?_
        rintro e w8 ⟨rfl, hb⟩
        dsimp only
        have HXc' := Lib.hid (bblock hb HXc.out); clear HXc; have HXc := HXc'; clear HXc'
        have HZc' := Lib.hid (bblock hb HZc.out); clear HZc; have HZc := HZc'; clear HZc'
        have HAc' := Lib.hid (bblock hb HAc.out); clear HAc; have HAc := HAc'; clear HAc'
        have HBc' := Lib.hid (below_call HBc.out hb); clear HBc; have HBc := HBc'; clear HBc'; have hsc' := Nat.le_trans hsc hb.size; clear hsc; have hsc := hsc'; clear hsc'
        clear hb
        refine hK8.out _ _ (⟨(cell_of_block (k := 0) HXc.out rfl).1, (cell_of_block (k := 1) HXc.out rfl).1, (cell_of_block (k := 3) HXc.out rfl).1⟩) (fun h8 => ?_)
        try simp only [Act.put, List.setIfInBounds_toArray, List.set_cons_zero, List.set_cons_succ]
        refine wpAnyH_take (i := 8) (oi := ⟨some 13, _, _, _, _, _⟩) (v := ?vt9x8) rfl (by kernel_rfl) (by kernel_rfl) (by kernel_rfl) (fun _ _ _ h => h) (Or.inl ⟨by rfl, ?hyt9x8⟩) (by exact (by exact ⟨(cell_of_block (k := 0) HXc.out rfl).1, (cell_of_block (k := 1) HXc.out rfl).1, (cell_of_block (k := 3) HXc.out rfl).1⟩)) ?ret9x8
        case hyt9x8 => (intro ww hSw; (try dsimp only at hSw); go_simp; first | done | with_reducible rfl)
        try simp only [Act.put, List.setIfInBounds_toArray, List.set_cons_zero, List.set_cons_succ]
        refine wpAnyH_ready (rs := [10]) (by kernel_rfl) (by simp) ?_
        refine AllReadyH.cons (o := ⟨none, _, _, _, _, _⟩) rfl (fun K10 hK10 => ?_) AllReadyH.nil
        obtain ⟨⟨p0, p1, p2, p3, p4, p5⟩, f0, f1, f2, f3, f4, f5⟩ := cells6 HAc.out
        go_simp
        have HXn := Lib.hid (block_set_other (a := ⟨a, 5, none⟩) (u := .slice none 0 0) (block_set_other (a := ⟨a, 4, none⟩) (u := .int .i64 1) (block_set_other (a := ⟨a, 3, none⟩) (u := .string ⟨N1.toArray⟩) (block_set_other (a := ⟨a, 2, none⟩) (u := .int .i64 0) (block_set_other (a := ⟨a, 1, none⟩) (u := .bool x.ans) (block_set_other (a := ⟨a, 0, none⟩) (u := .int .i64 id1) HXc.out (by first | (simp; done) | (simp; omega))) (by first | (simp; done) | (simp; omega))) (by first | (simp; done) | (simp; omega))) (by first | (simp; done) | (simp; omega))) (by first | (simp; done) | (simp; omega))) (by first | (simp; done) | (simp; omega))); have HZn := Lib.hid (block_set_other (a := ⟨a, 5, none⟩) (u := .slice none 0 0) (block_set_other (a := ⟨a, 4, none⟩) (u := .int .i64 1) (block_set_other (a := ⟨a, 3, none⟩) (u := .string ⟨N1.toArray⟩) (block_set_other (a := ⟨a, 2, none⟩) (u := .int .i64 0) (block_set_other (a := ⟨a, 1, none⟩) (u := .bool x.ans) (block_set_other (a := ⟨a, 0, none⟩) (u := .int .i64 id1) HZc.out (by first | (simp; done) | (simp; omega))) (by first | (simp; done) | (simp; omega))) (by first | (simp; done) | (simp; omega))) (by first | (simp; done) | (simp; omega))) (by first | (simp; done) | (simp; omega))) (by first | (simp; done) | (simp; omega))); have HBn := Lib.hid (Below.setCell (Below.setCell (Below.setCell (Below.setCell (Below.setCell (Below.setCell HBc.out (p := ⟨a, 0, none⟩) (by show w.heap.size ≤ a; omega) (.int .i64 id1)) (p := ⟨a, 1, none⟩) (by show w.heap.size ≤ a; omega) (.bool x.ans)) (p := ⟨a, 2, none⟩) (by show w.heap.size ≤ a; omega) (.int .i64 0)) (p := ⟨a, 3, none⟩) (by show w.heap.size ≤ a; omega) (.string ⟨N1.toArray⟩)) (p := ⟨a, 4, none⟩) (by show w.heap.size ≤ a; omega) (.int .i64 1)) (p := ⟨a, 5, none⟩) (by show w.heap.size ≤ a; omega) (.slice none 0 0))
        have HAn := Lib.hid (cells_eq (b := #[.int .i64 id1, .bool x.ans, .int .i64 0, .string ⟨N1.toArray⟩, .int .i64 1, .slice none 0 0]) (block_setCell (k := 5) (v := .slice none 0 0) (block_setCell (k := 4) (v := .int .i64 1) (block_setCell (k := 3) (v := .string ⟨N1.toArray⟩) (block_setCell (k := 2) (v := .int .i64 0) (block_setCell (k := 1) (v := .bool x.ans) (block_setCell (k := 0) (v := .int .i64 id1) HAc.out)))))) rfl)
        clear p0 p1 p2 p3 p4 p5 f0 f1 f2 f3 f4 f5
        refine hK10.out _ _ (⟨(cell_of_block (k := 0) HXn.out rfl).1, (cell_of_block (k := 1) HXn.out rfl).1, (cell_of_block (k := 3) HXn.out rfl).1⟩) (fun h10 => ?_)
        try simp only [Act.put, List.setIfInBounds_toArray, List.set_cons_zero, List.set_cons_succ]
        refine wpAnyH_done (by kernel_rfl) ?_ _
        go_wp2_with fail
        go_meet
        exact ⟨a, rfl, hal, HAn.out, HXn.out, HZn.out, HBn.out⟩
    case mo2 =>
      refine AllReadyH.cons (o := ⟨some 3, _, _, _, _, _⟩) rfl (fun K11 hK11 => ?_) AllReadyH.nil
      go_simp
      have HAc := Lib.hid (alloc_new wd (.cells #[.int .i64 0, .bool false, .int .i64 0, .string ⟨#[]⟩, .int .i64 0, .slice none 0 0] 39))
      have hb := (Below.refl wd.heap.size wd).alloc (Nat.le_refl _) (.cells #[.int .i64 0, .bool false, .int .i64 0, .string ⟨#[]⟩, .int .i64 0, .slice none 0 0] 39)
      have hal : w.heap.size + 1 < wd.heap.size := by omega
      have HXc' := Lib.hid (bblock hb HXc.out); clear HXc; have HXc := HXc'; clear HXc'
      have HZc' := Lib.hid (bblock hb HZc.out); clear HZc; have HZc := HZc'; clear HZc'
      have HBc' := Lib.hid (below_call HBc.out hb); clear HBc; have HBc := HBc'; clear HBc'; have hsc' := Nat.le_trans hsc hb.size; clear hsc; have hsc := hsc'; clear hsc'
      clear hb
      obtain ⟨a, hae⟩ : ∃ a, wd.heap.size = a := ⟨_, rfl⟩
      rw [hae] at HAc hal ⊢
      generalize wd.alloc (.cells #[.int .i64 0, .bool false, .int .i64 0, .string ⟨#[]⟩, .int .i64 0, .slice none 0 0] 39) = w11a at *
      clear hae
      refine hK11.out _ _ (⟨(cell_of_block (k := 0) HXc.out rfl).1, (cell_of_block (k := 1) HXc.out rfl).1, (cell_of_block (k := 3) HXc.out rfl).1⟩) (fun h11 => ?_)
      try simp only [Act.put, List.setIfInBounds_toArray, List.set_cons_zero, List.set_cons_succ]
      refine wpAnyH_ready (rs := [2]) (by kernel_rfl) (by simp) ?_
      refine AllReadyH.cons (o := ⟨some 7, _, _, _, _, _⟩) rfl (fun K12 hK12 => ?_) AllReadyH.nil
      go_simp
      refine (HI.out _).mono ?_
      rintro e w' ⟨rfl, rfl⟩
      dsimp only
      refine hK12.out _ _ (⟨(cell_of_block (k := 0) HXc.out rfl).1, (cell_of_block (k := 1) HXc.out rfl).1, (cell_of_block (k := 3) HXc.out rfl).1⟩) (fun h12 => ?_)
      try simp only [Act.put, List.setIfInBounds_toArray, List.set_cons_zero, List.set_cons_succ]
      refine wpAnyH_ready (rs := [7]) (by kernel_rfl) (by simp) ?_
      refine AllReadyH.cons (o := ⟨some 12, _, _, _, _, _⟩) rfl (fun K13 hK13 => ?_) AllReadyH.nil
      go_simp
      refine (HN.out _).mono ?_
      rintro e w13 ⟨rfl, hb⟩
      dsimp only
      have HXc' := Lib.hid (bblock hb HXc.out); clear HXc; have HXc := HXc'; clear HXc'
      have HZc' := Lib.hid (bblock hb HZc.out); clear HZc; have HZc := HZc'; clear HZc'
      have HAc' := Lib.hid (bblock hb HAc.out); clear HAc; have HAc := HAc'; clear HAc'
      have HBc' := Lib.hid (below_call HBc.out hb); clear HBc; have HBc := HBc'; clear HBc'; have hsc' := Nat.le_trans hsc hb.size; clear hsc; have hsc := hsc'; clear hsc'
      clear hb
      refine hK13.out _ _ (⟨(cell_of_block (k := 0) HXc.out rfl).1, (cell_of_block (k := 1) HXc.out rfl).1, (cell_of_block (k := 3) HXc.out rfl).1⟩) (fun h13 => ?_)
      try simp only [Act.put, List.setIfInBounds_toArray, List.set_cons_zero, List.set_cons_succ]
      refine wpAnyH_take (i := 8) (oi := ⟨some 13, _, _, _, _, _⟩) (v := ?vt14x8) rfl (by kernel_rfl) (by kernel_rfl) (by kernel_rfl) (fun _ _ _ h => h) (Or.inl ⟨by rfl, ?hyt14x8⟩) (by exact (by exact ⟨(cell_of_block (k := 0) HXc.out rfl).1, (cell_of_block (k := 1) HXc.out rfl).1, (cell_of_block (k := 3) HXc.out rfl).1⟩)) ?ret14x8
      case hyt14x8 => (intro ww hSw; (try dsimp only at hSw); go_simp; first | done | with_reducible rfl)
      try simp only [Act.put, List.setIfInBounds_toArray, List.set_cons_zero, List.set_cons_succ]
      refine wpAnyH_ready (rs := [10]) (by kernel_rfl) (by simp) ?_
      refine AllReadyH.cons (o := ⟨none, _, _, _, _, _⟩) rfl (fun K15 hK15 => ?_) AllReadyH.nil
      obtain ⟨⟨p0, p1, p2, p3, p4, p5⟩, f0, f1, f2, f3, f4, f5⟩ := cells6 HAc.out
      go_simp
      have HXn := Lib.hid (block_set_other (a := ⟨a, 5, none⟩) (u := .slice none 0 0) (block_set_other (a := ⟨a, 4, none⟩) (u := .int .i64 1) (block_set_other (a := ⟨a, 3, none⟩) (u := .string ⟨N1.toArray⟩) (block_set_other (a := ⟨a, 2, none⟩) (u := .int .i64 0) (block_set_other (a := ⟨a, 1, none⟩) (u := .bool x.ans) (block_set_other (a := ⟨a, 0, none⟩) (u := .int .i64 id1) HXc.out (by first | (simp; done) | (simp; omega))) (by first | (simp; done) | (simp; omega))) (by first | (simp; done) | (simp; omega))) (by first | (simp; done) | (simp; omega))) (by first | (simp; done) | (simp; omega))) (by first | (simp; done) | (simp; omega))); have HZn := Lib.hid (block_set_other (a := ⟨a, 5, none⟩) (u := .slice none 0 0) (block_set_other (a := ⟨a, 4, none⟩) (u := .int .i64 1) (block_set_other (a := ⟨a, 3, none⟩) (u := .string ⟨N1.toArray⟩) (block_set_other (a := ⟨a, 2, none⟩) (u := .int .i64 0) (block_set_other (a := ⟨a, 1, none⟩) (u := .bool x.ans) (block_set_other (a := ⟨a, 0, none⟩) (u := .int .i64 id1) HZc.out (by first | (simp; done) | (simp; omega))) (by first | (simp; done) | (simp; omega))) (by first | (simp; done) | (simp; omega))) (by first | (simp; done) | (simp; omega))) (by first | (simp; done) | (simp; omega))) (by first | (simp; done) | (simp; omega))); have HBn := Lib.hid (Below.setCell (Below.setCell (Below.setCell (Below.setCell (Below.setCell (Below.setCell HBc.out (p := ⟨a, 0, none⟩) (by show w.heap.size ≤ a; omega) (.int .i64 id1)) (p := ⟨a, 1, none⟩) (by show w.heap.size ≤ a; omega) (.bool x.ans)) (p := ⟨a, 2, none⟩) (by show w.heap.size ≤ a; omega) (.int .i64 0)) (p := ⟨a, 3, none⟩) (by show w.heap.size ≤ a; omega) (.string ⟨N1.toArray⟩)) (p := ⟨a, 4, none⟩) (by show w.heap.size ≤ a; omega) (.int .i64 1)) (p := ⟨a, 5, none⟩) (by show w.heap.size ≤ a; omega) (.slice none 0 0))
      have HAn := Lib.hid (cells_eq (b := #[.int .i64 id1, .bool x.ans, .int .i64 0, .string ⟨N1.toArray⟩, .int .i64 1, .slice none 0 0]) (block_setCell (k := 5) (v := .slice none 0 0) (block_setCell (k := 4) (v := .int .i64 1) (block_setCell (k := 3) (v := .string ⟨N1.toArray⟩) (block_setCell (k := 2) (v := .int .i64 0) (block_setCell (k := 1) (v := .bool x.ans) (block_setCell (k := 0) (v := .int .i64 id1) HAc.out)))))) rfl)
      clear p0 p1 p2 p3 p4 p5 f0 f1 f2 f3 f4 f5
      refine hK15.out _ _ (⟨(cell_of_block (k := 0) HXn.out rfl).1, (cell_of_block (k := 1) HXn.out rfl).1, (cell_of_block (k := 3) HXn.out rfl).1⟩) (fun h15 => ?_)
      try simp only [Act.put, List.setIfInBounds_toArray, List.set_cons_zero, List.set_cons_succ]
      refine wpAnyH_done (by kernel_rfl) ?_ _
      go_wp2_with fail
      go_meet
      exact ⟨a, rfl, hal, HAn.out, HXn.out, HZn.out, HBn.out⟩
  case rest =>
    clear HX HZ HB hsz HN HI
    obtain ⟨a, rfl, hal, ha, hx, hz, HB⟩ := hcut
    have HA := Lib.hid ha; have HX := Lib.hid hx; have HZ := Lib.hid hz; clear ha hx hz
    obtain ⟨⟨p0, p1, p2, p3, p4, p5⟩, f0, f1, f2, f3, f4, f5⟩ := cells6 HA.out
    obtain ⟨⟨x0, x1, x2, x3, x4, x5⟩, -⟩ := cells6 HX.out
    cases hal2 : x.alias with
    | false =>
      rw [hal2] at x4 HX HEq
      cases han : x.ans with
      | false =>
        rw [han] at p1 x1 HX HEq HA
        obtain ⟨⟨q0, q1, q2, q3, q4, q5⟩, g0, g1, g2, g3, g4, g5⟩ := cells6 HZ.out
        go_wp2_with fail
        have HY := cells_eq (b := #[.int .i64 id1, .bool false, .int .i64 0, .string ⟨N1.toArray⟩, .int .i64 1, .slice none 0 0]) (block_setCell (k := 5) (v := .slice none 0 0) (block_setCell (k := 4) (v := .int .i64 1) (block_setCell (k := 3) (v := .string ⟨N1.toArray⟩) (block_setCell (k := 2) (v := .int .i64 0) (block_setCell (k := 1) (v := .bool false) (block_setCell (k := 0) (v := .int .i64 id1) HZ.out)))))) rfl
        have HBf := (Below.setCell (Below.setCell (Below.setCell (Below.setCell (Below.setCell (Below.setCell HB (p := ⟨w.heap.size + 1, 0, none⟩) (by simp) (.int .i64 id1)) (p := ⟨w.heap.size + 1, 1, none⟩) (by simp) (.bool false)) (p := ⟨w.heap.size + 1, 2, none⟩) (by simp) (.int .i64 0)) (p := ⟨w.heap.size + 1, 3, none⟩) (by simp) (.string ⟨N1.toArray⟩)) (p := ⟨w.heap.size + 1, 4, none⟩) (by simp) (.int .i64 1)) (p := ⟨w.heap.size + 1, 5, none⟩) (by simp) (.slice none 0 0))
        refine bodyPost_ret (v := .agg #[.int .i64 id1, .bool false, .int .i64 0, .string ⟨N1.toArray⟩, .int .i64 1, .slice none 0 0]) (res_cell1 Tryz.results8 (by exact HY) rfl Tryz.underlying39 rfl infoMsg) rfl (HPost.out ⟨id1, false, 0, N1, 1, []⟩ _ _ (by rw [HEq.out]; rfl) ⟨_, _, rfl, SRow.nil _ _ _ _ _, HBf⟩)
      | true =>
        rw [han] at p1 x1 HX HEq HA
        go_upto_region 6 with fail
        go_wp2_with (go_at_call 20; refine (HC.out _).mono ?_; rintro e w' ⟨rfl, rfl⟩)
        have HA2 := Lib.hid (cells_eq (b := #[.int .i64 id1, .bool true, .int .i64 c1, .string ⟨N1.toArray⟩, .int .i64 1, .slice none 0 0]) (block_setCell (k := 2) (v := .int .i64 c1) HA.out) rfl)
        have HX2 := Lib.hid (block_set_other (a := ⟨a, 2, none⟩) (u := .int .i64 c1) HX.out (by first | (simp; done) | (simp; omega)))
        have HZ2 := Lib.hid (block_set_other (a := ⟨a, 2, none⟩) (u := .int .i64 c1) HZ.out (by first | (simp; done) | (simp; omega)))
        have HB2 := Lib.hid (Below.setCell HB (p := ⟨a, 2, none⟩) (by show w.heap.size ≤ a; omega) (.int .i64 c1))
        clear HA HX HZ HB p0 p1 p2 p3 p4 p5 f0 f1 f2 f3 f4 f5 x0 x1 x2 x3 x4 x5
        generalize World.setCell _ (⟨a, 2, none⟩ : Addr) (.int .i64 c1) = w2 at *
        go_loopw [4] (fun u wr => ∃ k A c, k ≤ n ∧ k ≤ 8 ∧ u = .int .i64 ((k : Nat) : Int) ∧ OfI w id1 c1 N1 1 (.cells #[.int .i64 x.id, .bool true, .int .i64 x.code, .int .i64 x.nm, .bool false, .slice Ax n cx] 24 (0, 0)) ((x.recs.take k).map recOf) k A c a wr) (fun u _ => n - (Go.RowKit.intOf u).toNat)
        case atStart => exact ⟨0, none, 0, by omega, by omega, rfl, HX2.out, HZ2.out, HA2.out, SRow.nil _ _ _ _ _, rfl, HB2.out⟩
        case round =>
          clear HA2 HX2 HZ2 HB2
          obtain ⟨k, A, c, hk, hk8, rfl, hI⟩ := hrel
          have HI := Lib.hid hI; clear hI
          have hx5 := (cell_of_block (k := 5) HI.out.x rfl).1
          have hln := HI.out.len
          by_cases hlt : k < n ∧ k < 8
          · obtain ⟨hk1, hk2⟩ := hlt
            have hkl : decide ((k : Int) < (n : Int)) = true := decide_eq_true (by omega)
            have hkl8 : decide ((k : Int) < 8) = true := decide_eq_true (by omega)
            have hki : (k : Int) < (n : Int) := by omega
            have hk0 : (0 : Int) ≤ (k : Int) := by omega
            obtain ⟨b, o, y, hA, hy, hbl, hyo, y0, y1, y2, y3⟩ := HRA.out.at_ k hk1
            subst hA
            have HT := Lib.hid (take_next x.recs k y hy)
            have HRO := Lib.hid fun W => recOf_any y W hyo
            clear hy
            go_upto_region 10 with fail
            have HSx : Hid (∀ W, Below w.heap.size w W → W.heap[w.heap.size]? = some (.cells #[.int .i64 x.id, .bool true, .int .i64 x.code, .int .i64 x.nm, .bool false, .slice (some ⟨b, o, none⟩) n cx] 24 (0, 0)) → (W.cell? ⟨w.heap.size, 5, none⟩ = some (.slice (some ⟨b, o, none⟩) n cx) ∧ W.cell? ⟨b, o + k * 4, none⟩ = some (.int .i64 y.nm) ∧ W.cell? ⟨b, o + k * 4 + 1, none⟩ = some (.bool y.alias) ∧ W.cell? ⟨b, o + k * 4 + 2, none⟩ = some (.int .i64 y.ttl) ∧ W.cell? ⟨b, o + k * 4 + 3, none⟩ = some (.int .i64 y.n))) := Lib.hid fun W hb hx => ⟨(cell_of_block (k := 5) hx rfl).1, bcell hb y0, bcell hb y1, bcell hb y2, bcell hb y3⟩
            refine wp_region_held_drew (S := fun W => (W.cell? ⟨w.heap.size, 5, none⟩ = some (.slice (some ⟨b, o, none⟩) n cx) ∧ W.cell? ⟨b, o + k * 4, none⟩ = some (.int .i64 y.nm) ∧ W.cell? ⟨b, o + k * 4 + 1, none⟩ = some (.bool y.alias) ∧ W.cell? ⟨b, o + k * 4 + 2, none⟩ = some (.int .i64 y.ttl) ∧ W.cell? ⟨b, o + k * 4 + 3, none⟩ = some (.int .i64 y.n))) (by kernel_rfl) (HSx.out _ HI.out.bl.drew HI.out.x) ?_
            intro hS
            have HDc : Hid (wr.drew.heap[a]? = _) := Lib.hid HI.out.d; have HZc : Hid (wr.drew.heap[w.heap.size + 1]? = _) := Lib.hid HI.out.z; have HXc : Hid (wr.drew.heap[w.heap.size]? = _) := Lib.hid HI.out.x; have HRw : Hid (RRow wr.drew w.heap.size A c ((x.recs.take k).map recOf)) := Lib.hid HI.out.row; have HBc : Hid (Below w.heap.size w wr.drew) := Lib.hid HI.out.bl.drew
            generalize wr.drew = wd at *
            clear hx5 y0 y1 y2 y3
            refine wpAnyH_take (i := 0) (oi := ⟨some 36, _, _, _, _, _⟩) (v := ?vt16x0) rfl (by kernel_rfl) (by kernel_rfl) (by kernel_rfl) (fun _ _ _ h => h) (Or.inl ⟨by rfl, ?hyt16x0⟩) (by exact hS) ?ret16x0
            case hyt16x0 => (intro ww hSw; (try dsimp only at hSw); go_simp; first | done | with_reducible rfl)
            try simp only [Act.put, List.setIfInBounds_toArray, List.set_cons_zero, List.set_cons_succ]
            refine wpAnyH_take (i := 2) (oi := ⟨some 38, _, _, _, _, _⟩) (v := ?vt16x2) rfl (by kernel_rfl) (by kernel_rfl) (by kernel_rfl) (fun _ _ _ h => h) (Or.inl ⟨by rfl, ?hyt16x2⟩) (by exact hS) ?ret16x2
            case hyt16x2 => (intro ww hSw; (try dsimp only at hSw); go_simp; first | done | with_reducible rfl)
            try simp only [Act.put, List.setIfInBounds_toArray, List.set_cons_zero, List.set_cons_succ]
            refine wpAnyH_take (i := 3) (oi := ⟨some 39, _, _, _, _, _⟩) (v := ?vt16x3) rfl (by kernel_rfl) (by kernel_rfl) (by kernel_rfl) (fun _ _ _ h => h) (Or.inl ⟨by rfl, ?hyt16x3⟩) (by exact hS) ?ret16x3
            case hyt16x3 => (intro ww hSw; (try dsimp only at hSw); go_simp; first | done | with_reducible rfl)
            try simp only [Act.put, List.setIfInBounds_toArray, List.set_cons_zero, List.set_cons_succ]
            refine wpAnyH_take (i := 4) (oi := ⟨some 40, _, _, _, _, _⟩) (v := ?vt16x4) rfl (by kernel_rfl) (by kernel_rfl) (by kernel_rfl) (fun _ _ _ h => h) (Or.inl ⟨by rfl, ?hyt16x4⟩) (by exact hS) ?ret16x4
            case hyt16x4 => (intro ww hSw; (try dsimp only at hSw); go_simp; first | done | with_reducible rfl)
            try simp only [Act.put, List.setIfInBounds_toArray, List.set_cons_zero, List.set_cons_succ]
            refine wpAnyH_take (i := 5) (oi := ⟨some 41, _, _, _, _, _⟩) (v := ?vt16x5) rfl (by kernel_rfl) (by kernel_rfl) (by kernel_rfl) (fun _ _ _ h => h) (Or.inl ⟨by rfl, ?hyt16x5⟩) (by exact hS) ?ret16x5
            case hyt16x5 => (intro ww hSw; (try dsimp only at hSw); go_simp; first | done | with_reducible rfl)
            try simp only [Act.put, List.setIfInBounds_toArray, List.set_cons_zero, List.set_cons_succ]
            refine wpAnyH_take (i := 6) (oi := ⟨some 42, _, _, _, _, _⟩) (v := ?vt16x6) rfl (by kernel_rfl) (by kernel_rfl) (by kernel_rfl) (fun _ _ _ h => h) (Or.inl ⟨by rfl, ?hyt16x6⟩) (by exact hS) ?ret16x6
            case hyt16x6 => (intro ww hSw; (try dsimp only at hSw); go_simp; first | done | with_reducible rfl)
            try simp only [Act.put, List.setIfInBounds_toArray, List.set_cons_zero, List.set_cons_succ]
            refine wpAnyH_ready (rs := [1, 7]) (by kernel_rfl) (by simp) ?_
            refine AllReadyH.cons (o := ⟨some 37, _, _, _, _, _⟩) rfl (fun K17 hK17 => ?sa17) ?mo17
            case sa17 =>
              have dl := (cell_of_block (k := 5) HDc.out rfl).1
              go_simp
              refine hK17.out _ _ (HSx.out _ HBc.out HXc.out) (fun h17 => ?_)
              try simp only [Act.put, List.setIfInBounds_toArray, List.set_cons_zero, List.set_cons_succ]
              clear dl
              refine wpAnyH_ready (rs := [7]) (by kernel_rfl) (by simp) ?_
              refine AllReadyH.cons (o := ⟨some 43, _, _, _, _, _⟩) rfl (fun K18 hK18 => ?_) AllReadyH.nil
              go_simp
              refine (HRO.out _).mono ?_
              rintro e w7 ⟨rfl, hb⟩
              have H7 := Lib.hid (bblock hb HDc.out); clear HDc; have HDc := H7; clear H7
              have H7 := Lib.hid (bblock hb HZc.out); clear HZc; have HZc := H7; clear H7
              have H7 := Lib.hid (bblock hb HXc.out); clear HXc; have HXc := H7; clear H7
              have H7 := Lib.hid (RRow.below HRw.out hb); clear HRw; have HRw := H7; clear H7; have H7 := Lib.hid (below_call HBc.out hb); clear HBc; have HBc := H7; clear H7 hb
              generalize recOf y = r at *
              obtain ⟨rn, rk, rt, ra, rdd⟩ := r
              dsimp only [rcells]
              refine hK18.out _ _ (HSx.out _ HBc.out HXc.out) (fun h18 => ?_)
              try simp only [Act.put, List.setIfInBounds_toArray, List.set_cons_zero, List.set_cons_succ]
              refine wpAnyH_ready (rs := [8]) (by kernel_rfl) (by simp) ?_
              refine AllReadyH.cons (o := ⟨some 44, _, _, _, _, _⟩) rfl (fun K19 hK19 => ?_) AllReadyH.nil
              go_simp
              have HN8 := Lib.hid (alloc_new w7 (.cells #[.string ⟨rn.toArray⟩, .int .i64 rk, .int .i64 rt, .int .i64 ra, .string ⟨rdd.toArray⟩] 92))
              have H8 := Lib.hid (block_alloc HDc.out (.cells #[.string ⟨rn.toArray⟩, .int .i64 rk, .int .i64 rt, .int .i64 ra, .string ⟨rdd.toArray⟩] 92)); clear HDc; have HDc := H8; clear H8
              have H8 := Lib.hid (block_alloc HZc.out (.cells #[.string ⟨rn.toArray⟩, .int .i64 rk, .int .i64 rt, .int .i64 ra, .string ⟨rdd.toArray⟩] 92)); clear HZc; have HZc := H8; clear H8
              have H8 := Lib.hid (block_alloc HXc.out (.cells #[.string ⟨rn.toArray⟩, .int .i64 rk, .int .i64 rt, .int .i64 ra, .string ⟨rdd.toArray⟩] 92)); clear HXc; have HXc := H8; clear H8
              have H8 := Lib.hid (RRow.below HRw.out ((Below.refl w7.heap.size w7).alloc (Nat.le_refl _) (.cells #[.string ⟨rn.toArray⟩, .int .i64 rk, .int .i64 rt, .int .i64 ra, .string ⟨rdd.toArray⟩] 92))); clear HRw; have HRw := H8; clear H8; have H8 := Lib.hid (below_alloc (o := .cells #[.string ⟨rn.toArray⟩, .int .i64 rk, .int .i64 rt, .int .i64 ra, .string ⟨rdd.toArray⟩] 92) HBc.out); clear HBc; have HBc := H8; clear H8
              have hs8 : w7.heap.size + 1 = (w7.alloc (.cells #[.string ⟨rn.toArray⟩, .int .i64 rk, .int .i64 rt, .int .i64 ra, .string ⟨rdd.toArray⟩] 92)).heap.size := by simp
              generalize w7.alloc (.cells #[.string ⟨rn.toArray⟩, .int .i64 rk, .int .i64 rt, .int .i64 ra, .string ⟨rdd.toArray⟩] 92) = w8 at *
              refine hK19.out _ _ (HSx.out _ HBc.out HXc.out) (fun h19 => ?_)
              try simp only [Act.put, List.setIfInBounds_toArray, List.set_cons_zero, List.set_cons_succ]
              obtain ⟨i0, hi, hz0, hz1, hz2⟩ := info_parts infoRecF
              have lDc := blk_lt HDc.out
              refine wpAnyH_ready (rs := [9]) (by kernel_rfl) (by simp) ?_
              refine AllReadyH.cons (o := ⟨some 45, _, _, _, _, _⟩) rfl (fun K20 hK20 => ?_) AllReadyH.nil
              have HC8 : Hid (([⟨rn, rk, rt, ra, rdd⟩] : List Rec).flatMap rcells = [.string ⟨rn.toArray⟩, .int .i64 rk, .int .i64 rt, .int .i64 ra, .string ⟨rdd.toArray⟩]) := Lib.hid rfl
              refine step_app rfl (.tmp 37) (.tmp 44) 37 rfl HRw.out rcells_len i0 _ 56 Tryz.underlying37 hi hz0 hz1 hz2 rfl (by decide) k hln _ _ _ [⟨rn, rk, rt, ra, rdd⟩] rfl rfl rfl (fun _ => ⟨_, rfl, by rw [HC8.out]; exact World.news_of_block HN8.out⟩) (by rw [HC8.out]; intro u hu; simp at hu; rcases hu with rfl | rfl | rfl | rfl | rfl <;> rfl) (by unfold maxLen; omega) (by omega) (by omega) ?_
              intro A2 c2 w9 ho hg ha
              have hoD := HRw.out.off HDc.out; have hoZ := HRw.out.off HZc.out; have hoX := HRw.out.offx HXc.out
              have H9 := Lib.hid ((hg.block _ (blk_lt HDc.out) (fun e => hoD (ob_bk e.symm))).trans HDc.out); clear HDc; have HDc := H9; clear H9
              have H9 := Lib.hid ((hg.block _ (blk_lt HZc.out) (fun e => hoZ (ob_bk e.symm))).trans HZc.out); clear HZc; have HZc := H9; clear H9
              have H9 := Lib.hid ((hg.block _ (blk_lt HXc.out) (fun e => hoX (ob_bk e.symm))).trans HXc.out); clear HXc; have HXc := H9; clear H9
              have H9 : Hid (Below w.heap.size w w9) := Lib.hid ⟨hg.os.trans HBc.out.os, hg.tape.trans HBc.out.tape, hg.output.trans HBc.out.output, Nat.le_trans HBc.out.size hg.size, fun i hi2 => (hg.block i (by have := HBc.out.size; omega) (fun e => by have := (HRw.out.bk' (ob_bk e.symm)).1; omega)).trans (HBc.out.block i hi2)⟩; clear HBc; have HBc := H9; clear H9
              have HRw9 : Hid (RRow w9 w.heap.size A2 c2 (_ ++ [⟨rn, rk, rt, ra, rdd⟩])) := Lib.hid ho
              clear ho hg ha hoD hoZ hoX HRw
              refine hK20.out _ _ (HSx.out _ HBc.out HXc.out) (fun h20 => ?_)
              try simp only [Act.put, List.setIfInBounds_toArray, List.set_cons_zero, List.set_cons_succ]
              refine wpAnyH_take (i := 10) (oi := ⟨some 46, _, _, _, _, _⟩) (v := ?vt21x10) rfl (by kernel_rfl) (by kernel_rfl) (by kernel_rfl) (fun _ _ _ h => h) (Or.inl ⟨by rfl, ?hyt21x10⟩) (by exact (by exact HSx.out _ HBc.out HXc.out)) ?ret21x10
              case hyt21x10 => (intro ww hSw; (try dsimp only at hSw); go_simp; first | done | with_reducible rfl)
              try simp only [Act.put, List.setIfInBounds_toArray, List.set_cons_zero, List.set_cons_succ]
              refine wpAnyH_ready (rs := [11]) (by kernel_rfl) (by simp) ?_
              refine AllReadyH.cons (o := ⟨none, _, _, _, _, _⟩) rfl (fun K22 hK22 => ?_) AllReadyH.nil
              have d9 := (cell_of_block (k := 5) HDc.out rfl).1; have z9 := (cell_of_block (k := 5) HDc.out rfl).2
              go_simp
              have hoD9 := HRw9.out.off HDc.out
              have HX9 := Lib.hid (block_set_other (a := ⟨a, 5, none⟩) (u := .slice A2 (k + 1) c2) HXc.out (by first | (simp; done) | (simp; omega))); have HZ9 := Lib.hid (block_set_other (a := ⟨a, 5, none⟩) (u := .slice A2 (k + 1) c2) HZc.out (by first | (simp; done) | (simp; omega))); have HB9 := Lib.hid (Below.setCell HBc.out (p := ⟨a, 5, none⟩) (by show w.heap.size ≤ a; omega) (.slice A2 (k + 1) c2))
              have HD9 := Lib.hid (cells_eq (b := #[.int .i64 id1, .bool true, .int .i64 c1, .string ⟨N1.toArray⟩, .int .i64 1, .slice A2 (k + 1) c2]) (block_setCell (k := 5) (v := .slice A2 (k + 1) c2) HDc.out) rfl)
              have HR9 : Hid (RRow (w9.setCell ⟨a, 5, none⟩ (.slice A2 (k + 1) c2)) w.heap.size A2 c2 ((x.recs.take (k + 1)).map recOf)) := Lib.hid (by rw [HT.out]; exact SRow.kept HRw9.out (fun x hx => by have hne : a ≠ x.block := fun e => hoD9 ⟨x, hx, e.symm⟩; simp [World.setCell, Array.getElem?_modify, hne]))
              clear hoD9
              refine hK22.out _ _ (HSx.out _ HB9.out HX9.out) (fun h22 => ?_)
              try simp only [Act.put, List.setIfInBounds_toArray, List.set_cons_zero, List.set_cons_succ]
              refine wpAnyH_done (by kernel_rfl) ?_ _
              clear d9 z9
              have HLn : Hid (((x.recs.take (k + 1)).map recOf).length = k + 1) := Lib.hid (by rw [HT.out, List.length_append, hln]; rfl)
              go_wp2_with fail
              exact ⟨⟨k + 1, A2, c2, by omega, by omega, by go_num, HX9.out, HZ9.out, HD9.out, HR9.out, HLn.out, HB9.out⟩, by simp [Go.RowKit.intOf]; omega⟩
            case mo17 =>
              refine AllReadyH.cons (o := ⟨some 43, _, _, _, _, _⟩) rfl (fun K23 hK23 => ?_) AllReadyH.nil
              go_simp
              refine (HRO.out _).mono ?_
              rintro e w7 ⟨rfl, hb⟩
              have H7 := Lib.hid (bblock hb HDc.out); clear HDc; have HDc := H7; clear H7
              have H7 := Lib.hid (bblock hb HZc.out); clear HZc; have HZc := H7; clear H7
              have H7 := Lib.hid (bblock hb HXc.out); clear HXc; have HXc := H7; clear H7
              have H7 := Lib.hid (RRow.below HRw.out hb); clear HRw; have HRw := H7; clear H7; have H7 := Lib.hid (below_call HBc.out hb); clear HBc; have HBc := H7; clear H7 hb
              generalize recOf y = r at *
              obtain ⟨rn, rk, rt, ra, rdd⟩ := r
              dsimp only [rcells]
              refine hK23.out _ _ (HSx.out _ HBc.out HXc.out) (fun h23 => ?_)
              try simp only [Act.put, List.setIfInBounds_toArray, List.set_cons_zero, List.set_cons_succ]
              refine wpAnyH_ready (rs := [1, 8]) (by kernel_rfl) (by simp) ?_
              refine AllReadyH.cons (o := ⟨some 37, _, _, _, _, _⟩) rfl (fun K24 hK24 => ?sa24) ?mo24
              case sa24 =>
                have dl := (cell_of_block (k := 5) HDc.out rfl).1
                go_simp
                refine hK24.out _ _ (HSx.out _ HBc.out HXc.out) (fun h24 => ?_)
                try simp only [Act.put, List.setIfInBounds_toArray, List.set_cons_zero, List.set_cons_succ]
                clear dl
                refine wpAnyH_ready (rs := [8]) (by kernel_rfl) (by simp) ?_
                refine AllReadyH.cons (o := ⟨some 44, _, _, _, _, _⟩) rfl (fun K25 hK25 => ?_) AllReadyH.nil
                go_simp
                have HN8 := Lib.hid (alloc_new w7 (.cells #[.string ⟨rn.toArray⟩, .int .i64 rk, .int .i64 rt, .int .i64 ra, .string ⟨rdd.toArray⟩] 92))
                have H8 := Lib.hid (block_alloc HDc.out (.cells #[.string ⟨rn.toArray⟩, .int .i64 rk, .int .i64 rt, .int .i64 ra, .string ⟨rdd.toArray⟩] 92)); clear HDc; have HDc := H8; clear H8
                have H8 := Lib.hid (block_alloc HZc.out (.cells #[.string ⟨rn.toArray⟩, .int .i64 rk, .int .i64 rt, .int .i64 ra, .string ⟨rdd.toArray⟩] 92)); clear HZc; have HZc := H8; clear H8
                have H8 := Lib.hid (block_alloc HXc.out (.cells #[.string ⟨rn.toArray⟩, .int .i64 rk, .int .i64 rt, .int .i64 ra, .string ⟨rdd.toArray⟩] 92)); clear HXc; have HXc := H8; clear H8
                have H8 := Lib.hid (RRow.below HRw.out ((Below.refl w7.heap.size w7).alloc (Nat.le_refl _) (.cells #[.string ⟨rn.toArray⟩, .int .i64 rk, .int .i64 rt, .int .i64 ra, .string ⟨rdd.toArray⟩] 92))); clear HRw; have HRw := H8; clear H8; have H8 := Lib.hid (below_alloc (o := .cells #[.string ⟨rn.toArray⟩, .int .i64 rk, .int .i64 rt, .int .i64 ra, .string ⟨rdd.toArray⟩] 92) HBc.out); clear HBc; have HBc := H8; clear H8
                have hs8 : w7.heap.size + 1 = (w7.alloc (.cells #[.string ⟨rn.toArray⟩, .int .i64 rk, .int .i64 rt, .int .i64 ra, .string ⟨rdd.toArray⟩] 92)).heap.size := by simp
                generalize w7.alloc (.cells #[.string ⟨rn.toArray⟩, .int .i64 rk, .int .i64 rt, .int .i64 ra, .string ⟨rdd.toArray⟩] 92) = w8 at *
                refine hK25.out _ _ (HSx.out _ HBc.out HXc.out) (fun h25 => ?_)
                try simp only [Act.put, List.setIfInBounds_toArray, List.set_cons_zero, List.set_cons_succ]
                obtain ⟨i0, hi, hz0, hz1, hz2⟩ := info_parts infoRecF
                have lDc := blk_lt HDc.out
                refine wpAnyH_ready (rs := [9]) (by kernel_rfl) (by simp) ?_
                refine AllReadyH.cons (o := ⟨some 45, _, _, _, _, _⟩) rfl (fun K26 hK26 => ?_) AllReadyH.nil
                have HC8 : Hid (([⟨rn, rk, rt, ra, rdd⟩] : List Rec).flatMap rcells = [.string ⟨rn.toArray⟩, .int .i64 rk, .int .i64 rt, .int .i64 ra, .string ⟨rdd.toArray⟩]) := Lib.hid rfl
                refine step_app rfl (.tmp 37) (.tmp 44) 37 rfl HRw.out rcells_len i0 _ 56 Tryz.underlying37 hi hz0 hz1 hz2 rfl (by decide) k hln _ _ _ [⟨rn, rk, rt, ra, rdd⟩] rfl rfl rfl (fun _ => ⟨_, rfl, by rw [HC8.out]; exact World.news_of_block HN8.out⟩) (by rw [HC8.out]; intro u hu; simp at hu; rcases hu with rfl | rfl | rfl | rfl | rfl <;> rfl) (by unfold maxLen; omega) (by omega) (by omega) ?_
                intro A2 c2 w9 ho hg ha
                have hoD := HRw.out.off HDc.out; have hoZ := HRw.out.off HZc.out; have hoX := HRw.out.offx HXc.out
                have H9 := Lib.hid ((hg.block _ (blk_lt HDc.out) (fun e => hoD (ob_bk e.symm))).trans HDc.out); clear HDc; have HDc := H9; clear H9
                have H9 := Lib.hid ((hg.block _ (blk_lt HZc.out) (fun e => hoZ (ob_bk e.symm))).trans HZc.out); clear HZc; have HZc := H9; clear H9
                have H9 := Lib.hid ((hg.block _ (blk_lt HXc.out) (fun e => hoX (ob_bk e.symm))).trans HXc.out); clear HXc; have HXc := H9; clear H9
                have H9 : Hid (Below w.heap.size w w9) := Lib.hid ⟨hg.os.trans HBc.out.os, hg.tape.trans HBc.out.tape, hg.output.trans HBc.out.output, Nat.le_trans HBc.out.size hg.size, fun i hi2 => (hg.block i (by have := HBc.out.size; omega) (fun e => by have := (HRw.out.bk' (ob_bk e.symm)).1; omega)).trans (HBc.out.block i hi2)⟩; clear HBc; have HBc := H9; clear H9
                have HRw9 : Hid (RRow w9 w.heap.size A2 c2 (_ ++ [⟨rn, rk, rt, ra, rdd⟩])) := Lib.hid ho
                clear ho hg ha hoD hoZ hoX HRw
                refine hK26.out _ _ (HSx.out _ HBc.out HXc.out) (fun h26 => ?_)
                try simp only [Act.put, List.setIfInBounds_toArray, List.set_cons_zero, List.set_cons_succ]
                refine wpAnyH_take (i := 10) (oi := ⟨some 46, _, _, _, _, _⟩) (v := ?vt27x10) rfl (by kernel_rfl) (by kernel_rfl) (by kernel_rfl) (fun _ _ _ h => h) (Or.inl ⟨by rfl, ?hyt27x10⟩) (by exact (by exact HSx.out _ HBc.out HXc.out)) ?ret27x10
                case hyt27x10 => (intro ww hSw; (try dsimp only at hSw); go_simp; first | done | with_reducible rfl)
                try simp only [Act.put, List.setIfInBounds_toArray, List.set_cons_zero, List.set_cons_succ]
                refine wpAnyH_ready (rs := [11]) (by kernel_rfl) (by simp) ?_
                refine AllReadyH.cons (o := ⟨none, _, _, _, _, _⟩) rfl (fun K28 hK28 => ?_) AllReadyH.nil
                have d9 := (cell_of_block (k := 5) HDc.out rfl).1; have z9 := (cell_of_block (k := 5) HDc.out rfl).2
                go_simp
                have hoD9 := HRw9.out.off HDc.out
                have HX9 := Lib.hid (block_set_other (a := ⟨a, 5, none⟩) (u := .slice A2 (k + 1) c2) HXc.out (by first | (simp; done) | (simp; omega))); have HZ9 := Lib.hid (block_set_other (a := ⟨a, 5, none⟩) (u := .slice A2 (k + 1) c2) HZc.out (by first | (simp; done) | (simp; omega))); have HB9 := Lib.hid (Below.setCell HBc.out (p := ⟨a, 5, none⟩) (by show w.heap.size ≤ a; omega) (.slice A2 (k + 1) c2))
                have HD9 := Lib.hid (cells_eq (b := #[.int .i64 id1, .bool true, .int .i64 c1, .string ⟨N1.toArray⟩, .int .i64 1, .slice A2 (k + 1) c2]) (block_setCell (k := 5) (v := .slice A2 (k + 1) c2) HDc.out) rfl)
                have HR9 : Hid (RRow (w9.setCell ⟨a, 5, none⟩ (.slice A2 (k + 1) c2)) w.heap.size A2 c2 ((x.recs.take (k + 1)).map recOf)) := Lib.hid (by rw [HT.out]; exact SRow.kept HRw9.out (fun x hx => by have hne : a ≠ x.block := fun e => hoD9 ⟨x, hx, e.symm⟩; simp [World.setCell, Array.getElem?_modify, hne]))
                clear hoD9
                refine hK28.out _ _ (HSx.out _ HB9.out HX9.out) (fun h28 => ?_)
                try simp only [Act.put, List.setIfInBounds_toArray, List.set_cons_zero, List.set_cons_succ]
                refine wpAnyH_done (by kernel_rfl) ?_ _
                clear d9 z9
                have HLn : Hid (((x.recs.take (k + 1)).map recOf).length = k + 1) := Lib.hid (by rw [HT.out, List.length_append, hln]; rfl)
                go_wp2_with fail
                exact ⟨⟨k + 1, A2, c2, by omega, by omega, by go_num, HX9.out, HZ9.out, HD9.out, HR9.out, HLn.out, HB9.out⟩, by simp [Go.RowKit.intOf]; omega⟩
              case mo24 =>
                refine AllReadyH.cons (o := ⟨some 44, _, _, _, _, _⟩) rfl (fun K29 hK29 => ?_) AllReadyH.nil
                go_simp
                have HN8 := Lib.hid (alloc_new w7 (.cells #[.string ⟨rn.toArray⟩, .int .i64 rk, .int .i64 rt, .int .i64 ra, .string ⟨rdd.toArray⟩] 92))
                have H8 := Lib.hid (block_alloc HDc.out (.cells #[.string ⟨rn.toArray⟩, .int .i64 rk, .int .i64 rt, .int .i64 ra, .string ⟨rdd.toArray⟩] 92)); clear HDc; have HDc := H8; clear H8
                have H8 := Lib.hid (block_alloc HZc.out (.cells #[.string ⟨rn.toArray⟩, .int .i64 rk, .int .i64 rt, .int .i64 ra, .string ⟨rdd.toArray⟩] 92)); clear HZc; have HZc := H8; clear H8
                have H8 := Lib.hid (block_alloc HXc.out (.cells #[.string ⟨rn.toArray⟩, .int .i64 rk, .int .i64 rt, .int .i64 ra, .string ⟨rdd.toArray⟩] 92)); clear HXc; have HXc := H8; clear H8
                have H8 := Lib.hid (RRow.below HRw.out ((Below.refl w7.heap.size w7).alloc (Nat.le_refl _) (.cells #[.string ⟨rn.toArray⟩, .int .i64 rk, .int .i64 rt, .int .i64 ra, .string ⟨rdd.toArray⟩] 92))); clear HRw; have HRw := H8; clear H8; have H8 := Lib.hid (below_alloc (o := .cells #[.string ⟨rn.toArray⟩, .int .i64 rk, .int .i64 rt, .int .i64 ra, .string ⟨rdd.toArray⟩] 92) HBc.out); clear HBc; have HBc := H8; clear H8
                have hs8 : w7.heap.size + 1 = (w7.alloc (.cells #[.string ⟨rn.toArray⟩, .int .i64 rk, .int .i64 rt, .int .i64 ra, .string ⟨rdd.toArray⟩] 92)).heap.size := by simp
                generalize w7.alloc (.cells #[.string ⟨rn.toArray⟩, .int .i64 rk, .int .i64 rt, .int .i64 ra, .string ⟨rdd.toArray⟩] 92) = w8 at *
                refine hK29.out _ _ (HSx.out _ HBc.out HXc.out) (fun h29 => ?_)
                try simp only [Act.put, List.setIfInBounds_toArray, List.set_cons_zero, List.set_cons_succ]
                refine wpAnyH_ready (rs := [1]) (by kernel_rfl) (by simp) ?_
                refine AllReadyH.cons (o := ⟨some 37, _, _, _, _, _⟩) rfl (fun K30 hK30 => ?_) AllReadyH.nil
                have dl := (cell_of_block (k := 5) HDc.out rfl).1
                go_simp
                refine hK30.out _ _ (HSx.out _ HBc.out HXc.out) (fun h30 => ?_)
                try simp only [Act.put, List.setIfInBounds_toArray, List.set_cons_zero, List.set_cons_succ]
                clear dl
                obtain ⟨i0, hi, hz0, hz1, hz2⟩ := info_parts infoRecF
                have lDc := blk_lt HDc.out
                refine wpAnyH_ready (rs := [9]) (by kernel_rfl) (by simp) ?_
                refine AllReadyH.cons (o := ⟨some 45, _, _, _, _, _⟩) rfl (fun K31 hK31 => ?_) AllReadyH.nil
                have HC8 : Hid (([⟨rn, rk, rt, ra, rdd⟩] : List Rec).flatMap rcells = [.string ⟨rn.toArray⟩, .int .i64 rk, .int .i64 rt, .int .i64 ra, .string ⟨rdd.toArray⟩]) := Lib.hid rfl
                refine step_app rfl (.tmp 37) (.tmp 44) 37 rfl HRw.out rcells_len i0 _ 56 Tryz.underlying37 hi hz0 hz1 hz2 rfl (by decide) k hln _ _ _ [⟨rn, rk, rt, ra, rdd⟩] rfl rfl rfl (fun _ => ⟨_, rfl, by rw [HC8.out]; exact World.news_of_block HN8.out⟩) (by rw [HC8.out]; intro u hu; simp at hu; rcases hu with rfl | rfl | rfl | rfl | rfl <;> rfl) (by unfold maxLen; omega) (by omega) (by omega) ?_
                intro A2 c2 w9 ho hg ha
                have hoD := HRw.out.off HDc.out; have hoZ := HRw.out.off HZc.out; have hoX := HRw.out.offx HXc.out
                have H9 := Lib.hid ((hg.block _ (blk_lt HDc.out) (fun e => hoD (ob_bk e.symm))).trans HDc.out); clear HDc; have HDc := H9; clear H9
                have H9 := Lib.hid ((hg.block _ (blk_lt HZc.out) (fun e => hoZ (ob_bk e.symm))).trans HZc.out); clear HZc; have HZc := H9; clear H9
                have H9 := Lib.hid ((hg.block _ (blk_lt HXc.out) (fun e => hoX (ob_bk e.symm))).trans HXc.out); clear HXc; have HXc := H9; clear H9
                have H9 : Hid (Below w.heap.size w w9) := Lib.hid ⟨hg.os.trans HBc.out.os, hg.tape.trans HBc.out.tape, hg.output.trans HBc.out.output, Nat.le_trans HBc.out.size hg.size, fun i hi2 => (hg.block i (by have := HBc.out.size; omega) (fun e => by have := (HRw.out.bk' (ob_bk e.symm)).1; omega)).trans (HBc.out.block i hi2)⟩; clear HBc; have HBc := H9; clear H9
                have HRw9 : Hid (RRow w9 w.heap.size A2 c2 (_ ++ [⟨rn, rk, rt, ra, rdd⟩])) := Lib.hid ho
                clear ho hg ha hoD hoZ hoX HRw
                refine hK31.out _ _ (HSx.out _ HBc.out HXc.out) (fun h31 => ?_)
                try simp only [Act.put, List.setIfInBounds_toArray, List.set_cons_zero, List.set_cons_succ]
                refine wpAnyH_take (i := 10) (oi := ⟨some 46, _, _, _, _, _⟩) (v := ?vt32x10) rfl (by kernel_rfl) (by kernel_rfl) (by kernel_rfl) (fun _ _ _ h => h) (Or.inl ⟨by rfl, ?hyt32x10⟩) (by exact (by exact HSx.out _ HBc.out HXc.out)) ?ret32x10
                case hyt32x10 => (intro ww hSw; (try dsimp only at hSw); go_simp; first | done | with_reducible rfl)
                try simp only [Act.put, List.setIfInBounds_toArray, List.set_cons_zero, List.set_cons_succ]
                refine wpAnyH_ready (rs := [11]) (by kernel_rfl) (by simp) ?_
                refine AllReadyH.cons (o := ⟨none, _, _, _, _, _⟩) rfl (fun K33 hK33 => ?_) AllReadyH.nil
                have d9 := (cell_of_block (k := 5) HDc.out rfl).1; have z9 := (cell_of_block (k := 5) HDc.out rfl).2
                go_simp
                have hoD9 := HRw9.out.off HDc.out
                have HX9 := Lib.hid (block_set_other (a := ⟨a, 5, none⟩) (u := .slice A2 (k + 1) c2) HXc.out (by first | (simp; done) | (simp; omega))); have HZ9 := Lib.hid (block_set_other (a := ⟨a, 5, none⟩) (u := .slice A2 (k + 1) c2) HZc.out (by first | (simp; done) | (simp; omega))); have HB9 := Lib.hid (Below.setCell HBc.out (p := ⟨a, 5, none⟩) (by show w.heap.size ≤ a; omega) (.slice A2 (k + 1) c2))
                have HD9 := Lib.hid (cells_eq (b := #[.int .i64 id1, .bool true, .int .i64 c1, .string ⟨N1.toArray⟩, .int .i64 1, .slice A2 (k + 1) c2]) (block_setCell (k := 5) (v := .slice A2 (k + 1) c2) HDc.out) rfl)
                have HR9 : Hid (RRow (w9.setCell ⟨a, 5, none⟩ (.slice A2 (k + 1) c2)) w.heap.size A2 c2 ((x.recs.take (k + 1)).map recOf)) := Lib.hid (by rw [HT.out]; exact SRow.kept HRw9.out (fun x hx => by have hne : a ≠ x.block := fun e => hoD9 ⟨x, hx, e.symm⟩; simp [World.setCell, Array.getElem?_modify, hne]))
                clear hoD9
                refine hK33.out _ _ (HSx.out _ HB9.out HX9.out) (fun h33 => ?_)
                try simp only [Act.put, List.setIfInBounds_toArray, List.set_cons_zero, List.set_cons_succ]
                refine wpAnyH_done (by kernel_rfl) ?_ _
                clear d9 z9
                have HLn : Hid (((x.recs.take (k + 1)).map recOf).length = k + 1) := Lib.hid (by rw [HT.out, List.length_append, hln]; rfl)
                go_wp2_with fail
                exact ⟨⟨k + 1, A2, c2, by omega, by omega, by go_num, HX9.out, HZ9.out, HD9.out, HR9.out, HLn.out, HB9.out⟩, by simp [Go.RowKit.intOf]; omega⟩
          · have HEn : Hid ((x.recs.take 8).map recOf = (x.recs.take k).map recOf) := Lib.hid (by congr 1; by_cases h8 : k = 8; rw [h8]; rw [List.take_of_length_le (by omega), List.take_of_length_le (by omega)])
            obtain ⟨⟨p0, p1, p2, p3, p4, p5⟩, f0, f1, f2, f3, f4, f5⟩ := cells6 HI.out.d
            obtain ⟨⟨q0, q1, q2, q3, q4, q5⟩, g0, g1, g2, g3, g4, g5⟩ := cells6 HI.out.z
            by_cases hkn : k < n
            · have hkl : decide ((k : Int) < (n : Int)) = true := decide_eq_true (by omega)
              have hkl8 : decide ((k : Int) < 8) = false := decide_eq_false (by omega)
              go_wp2_with fail
              have hoff := HI.out.row.off HI.out.z
              have HRowF : RRow _ w.heap.size A c ((x.recs.take k).map recOf) := SRow.kept HI.out.row (W' := (World.setCell (World.setCell (World.setCell (World.setCell (World.setCell (World.setCell wr ⟨w.heap.size + 1, 0, none⟩ (.int .i64 id1)) ⟨w.heap.size + 1, 1, none⟩ (.bool true)) ⟨w.heap.size + 1, 2, none⟩ (.int .i64 c1)) ⟨w.heap.size + 1, 3, none⟩ (.string ⟨N1.toArray⟩)) ⟨w.heap.size + 1, 4, none⟩ (.int .i64 1)) ⟨w.heap.size + 1, 5, none⟩ (.slice A k c))) (fun x hx => by have hne : w.heap.size + 1 ≠ x.block := fun e => hoff ⟨x, hx, e.symm⟩; simp [World.setCell, Array.getElem?_modify, hne])
              have HY := cells_eq (b := #[.int .i64 id1, .bool true, .int .i64 c1, .string ⟨N1.toArray⟩, .int .i64 1, .slice A k c]) (block_setCell (k := 5) (v := .slice A k c) (block_setCell (k := 4) (v := .int .i64 1) (block_setCell (k := 3) (v := .string ⟨N1.toArray⟩) (block_setCell (k := 2) (v := .int .i64 c1) (block_setCell (k := 1) (v := .bool true) (block_setCell (k := 0) (v := .int .i64 id1) HI.out.z)))))) rfl
              have HBf := (Below.setCell (Below.setCell (Below.setCell (Below.setCell (Below.setCell (Below.setCell HI.out.bl (p := ⟨w.heap.size + 1, 0, none⟩) (by simp) (.int .i64 id1)) (p := ⟨w.heap.size + 1, 1, none⟩) (by simp) (.bool true)) (p := ⟨w.heap.size + 1, 2, none⟩) (by simp) (.int .i64 c1)) (p := ⟨w.heap.size + 1, 3, none⟩) (by simp) (.string ⟨N1.toArray⟩)) (p := ⟨w.heap.size + 1, 4, none⟩) (by simp) (.int .i64 1)) (p := ⟨w.heap.size + 1, 5, none⟩) (by simp) (.slice A k c))
              refine bodyPost_ret (v := .agg #[.int .i64 id1, .bool true, .int .i64 c1, .string ⟨N1.toArray⟩, .int .i64 1, .slice A k c]) (res_cell1 Tryz.results8 (by exact HY) rfl Tryz.underlying39 rfl infoMsg) rfl (HPost.out ⟨id1, true, c1, N1, 1, (x.recs.take k).map recOf⟩ _ _ (by rw [HEq.out, ← HEn.out]; rfl) ⟨A, c, ?_, HRowF, HBf⟩)
              unfold mcells; dsimp only; rw [hln]
            · have hkl : decide ((k : Int) < (n : Int)) = false := decide_eq_false (by omega)
              go_wp2_with fail
              have hoff := HI.out.row.off HI.out.z
              have HRowF : RRow _ w.heap.size A c ((x.recs.take k).map recOf) := SRow.kept HI.out.row (W' := (World.setCell (World.setCell (World.setCell (World.setCell (World.setCell (World.setCell wr ⟨w.heap.size + 1, 0, none⟩ (.int .i64 id1)) ⟨w.heap.size + 1, 1, none⟩ (.bool true)) ⟨w.heap.size + 1, 2, none⟩ (.int .i64 c1)) ⟨w.heap.size + 1, 3, none⟩ (.string ⟨N1.toArray⟩)) ⟨w.heap.size + 1, 4, none⟩ (.int .i64 1)) ⟨w.heap.size + 1, 5, none⟩ (.slice A k c))) (fun x hx => by have hne : w.heap.size + 1 ≠ x.block := fun e => hoff ⟨x, hx, e.symm⟩; simp [World.setCell, Array.getElem?_modify, hne])
              have HY := cells_eq (b := #[.int .i64 id1, .bool true, .int .i64 c1, .string ⟨N1.toArray⟩, .int .i64 1, .slice A k c]) (block_setCell (k := 5) (v := .slice A k c) (block_setCell (k := 4) (v := .int .i64 1) (block_setCell (k := 3) (v := .string ⟨N1.toArray⟩) (block_setCell (k := 2) (v := .int .i64 c1) (block_setCell (k := 1) (v := .bool true) (block_setCell (k := 0) (v := .int .i64 id1) HI.out.z)))))) rfl
              have HBf := (Below.setCell (Below.setCell (Below.setCell (Below.setCell (Below.setCell (Below.setCell HI.out.bl (p := ⟨w.heap.size + 1, 0, none⟩) (by simp) (.int .i64 id1)) (p := ⟨w.heap.size + 1, 1, none⟩) (by simp) (.bool true)) (p := ⟨w.heap.size + 1, 2, none⟩) (by simp) (.int .i64 c1)) (p := ⟨w.heap.size + 1, 3, none⟩) (by simp) (.string ⟨N1.toArray⟩)) (p := ⟨w.heap.size + 1, 4, none⟩) (by simp) (.int .i64 1)) (p := ⟨w.heap.size + 1, 5, none⟩) (by simp) (.slice A k c))
              refine bodyPost_ret (v := .agg #[.int .i64 id1, .bool true, .int .i64 c1, .string ⟨N1.toArray⟩, .int .i64 1, .slice A k c]) (res_cell1 Tryz.results8 (by exact HY) rfl Tryz.underlying39 rfl infoMsg) rfl (HPost.out ⟨id1, true, c1, N1, 1, (x.recs.take k).map recOf⟩ _ _ (by rw [HEq.out, ← HEn.out]; rfl) ⟨A, c, ?_, HRowF, HBf⟩)
              unfold mcells; dsimp only; rw [hln]
    | true =>
      rw [hal2] at x4 HX HEq
      cases han : x.ans with
      | false =>
        rw [han] at p1 x1 HX HEq HA
        obtain ⟨⟨q0, q1, q2, q3, q4, q5⟩, g0, g1, g2, g3, g4, g5⟩ := cells6 HZ.out
        go_wp2_with fail
        have HY := cells_eq (b := #[.int .i64 id1, .bool false, .int .i64 0, .string ⟨N1.toArray⟩, .int .i64 2, .slice none 0 0]) (block_setCell (k := 5) (v := .slice none 0 0) (block_setCell (k := 4) (v := .int .i64 2) (block_setCell (k := 3) (v := .string ⟨N1.toArray⟩) (block_setCell (k := 2) (v := .int .i64 0) (block_setCell (k := 1) (v := .bool false) (block_setCell (k := 0) (v := .int .i64 id1) (block_set_other (a := ⟨a, 4, none⟩) (u := .int .i64 2) HZ.out (by first | (simp; done) | (simp; omega))))))))) rfl
        have HBf := (Below.setCell (Below.setCell (Below.setCell (Below.setCell (Below.setCell (Below.setCell (Below.setCell HB (p := ⟨a, 4, none⟩) (by show w.heap.size ≤ a; omega) (.int .i64 2)) (p := ⟨w.heap.size + 1, 0, none⟩) (by simp) (.int .i64 id1)) (p := ⟨w.heap.size + 1, 1, none⟩) (by simp) (.bool false)) (p := ⟨w.heap.size + 1, 2, none⟩) (by simp) (.int .i64 0)) (p := ⟨w.heap.size + 1, 3, none⟩) (by simp) (.string ⟨N1.toArray⟩)) (p := ⟨w.heap.size + 1, 4, none⟩) (by simp) (.int .i64 2)) (p := ⟨w.heap.size + 1, 5, none⟩) (by simp) (.slice none 0 0))
        refine bodyPost_ret (v := .agg #[.int .i64 id1, .bool false, .int .i64 0, .string ⟨N1.toArray⟩, .int .i64 2, .slice none 0 0]) (res_cell1 Tryz.results8 (by exact HY) rfl Tryz.underlying39 rfl infoMsg) rfl (HPost.out ⟨id1, false, 0, N1, 2, []⟩ _ _ (by rw [HEq.out]; rfl) ⟨_, _, rfl, SRow.nil _ _ _ _ _, HBf⟩)
      | true =>
        rw [han] at p1 x1 HX HEq HA
        go_upto_region 6 with fail
        have HAt := Lib.hid (cells_eq (b := #[.int .i64 id1, .bool true, .int .i64 0, .string ⟨N1.toArray⟩, .int .i64 2, .slice none 0 0]) (block_setCell (k := 4) (v := .int .i64 2) HA.out) rfl)
        have HXt := Lib.hid (block_set_other (a := ⟨a, 4, none⟩) (u := .int .i64 2) HX.out (by first | (simp; done) | (simp; omega)))
        have HZt := Lib.hid (block_set_other (a := ⟨a, 4, none⟩) (u := .int .i64 2) HZ.out (by first | (simp; done) | (simp; omega)))
        have HBt := Below.setCell HB (p := ⟨a, 4, none⟩) (by show w.heap.size ≤ a; omega) (.int .i64 2)
        clear HA HX HZ HB p0 p1 p2 p3 p4 p5 f0 f1 f2 f3 f4 f5 x0 x1 x2 x3 x4 x5
        have HA := HAt; have HX := HXt; have HZ := HZt; have HB := HBt; clear HAt HXt HZt HBt
        generalize World.setCell _ (⟨a, 4, none⟩ : Addr) (.int .i64 2) = wt at *
        obtain ⟨⟨p0, p1, p2, p3, p4, p5⟩, f0, f1, f2, f3, f4, f5⟩ := cells6 HA.out
        obtain ⟨⟨x0, x1, x2, x3, x4, x5⟩, -⟩ := cells6 HX.out
        go_wp2_with (go_at_call 20; refine (HC.out _).mono ?_; rintro e w' ⟨rfl, rfl⟩)
        have HA2 := Lib.hid (cells_eq (b := #[.int .i64 id1, .bool true, .int .i64 c1, .string ⟨N1.toArray⟩, .int .i64 2, .slice none 0 0]) (block_setCell (k := 2) (v := .int .i64 c1) HA.out) rfl)
        have HX2 := Lib.hid (block_set_other (a := ⟨a, 2, none⟩) (u := .int .i64 c1) HX.out (by first | (simp; done) | (simp; omega)))
        have HZ2 := Lib.hid (block_set_other (a := ⟨a, 2, none⟩) (u := .int .i64 c1) HZ.out (by first | (simp; done) | (simp; omega)))
        have HB2 := Lib.hid (Below.setCell HB (p := ⟨a, 2, none⟩) (by show w.heap.size ≤ a; omega) (.int .i64 c1))
        clear HA HX HZ HB p0 p1 p2 p3 p4 p5 f0 f1 f2 f3 f4 f5 x0 x1 x2 x3 x4 x5
        generalize World.setCell _ (⟨a, 2, none⟩ : Addr) (.int .i64 c1) = w2 at *
        go_loopw [4] (fun u wr => ∃ k A c, k ≤ n ∧ k ≤ 8 ∧ u = .int .i64 ((k : Nat) : Int) ∧ OfI w id1 c1 N1 2 (.cells #[.int .i64 x.id, .bool true, .int .i64 x.code, .int .i64 x.nm, .bool true, .slice Ax n cx] 24 (0, 0)) ((x.recs.take k).map recOf) k A c a wr) (fun u _ => n - (Go.RowKit.intOf u).toNat)
        case atStart => exact ⟨0, none, 0, by omega, by omega, rfl, HX2.out, HZ2.out, HA2.out, SRow.nil _ _ _ _ _, rfl, HB2.out⟩
        case round =>
          clear HA2 HX2 HZ2 HB2
          obtain ⟨k, A, c, hk, hk8, rfl, hI⟩ := hrel
          have HI := Lib.hid hI; clear hI
          have hx5 := (cell_of_block (k := 5) HI.out.x rfl).1
          have hln := HI.out.len
          by_cases hlt : k < n ∧ k < 8
          · obtain ⟨hk1, hk2⟩ := hlt
            have hkl : decide ((k : Int) < (n : Int)) = true := decide_eq_true (by omega)
            have hkl8 : decide ((k : Int) < 8) = true := decide_eq_true (by omega)
            have hki : (k : Int) < (n : Int) := by omega
            have hk0 : (0 : Int) ≤ (k : Int) := by omega
            obtain ⟨b, o, y, hA, hy, hbl, hyo, y0, y1, y2, y3⟩ := HRA.out.at_ k hk1
            subst hA
            have HT := Lib.hid (take_next x.recs k y hy)
            have HRO := Lib.hid fun W => recOf_any y W hyo
            clear hy
            go_upto_region 10 with fail
            have HSx : Hid (∀ W, Below w.heap.size w W → W.heap[w.heap.size]? = some (.cells #[.int .i64 x.id, .bool true, .int .i64 x.code, .int .i64 x.nm, .bool true, .slice (some ⟨b, o, none⟩) n cx] 24 (0, 0)) → (W.cell? ⟨w.heap.size, 5, none⟩ = some (.slice (some ⟨b, o, none⟩) n cx) ∧ W.cell? ⟨b, o + k * 4, none⟩ = some (.int .i64 y.nm) ∧ W.cell? ⟨b, o + k * 4 + 1, none⟩ = some (.bool y.alias) ∧ W.cell? ⟨b, o + k * 4 + 2, none⟩ = some (.int .i64 y.ttl) ∧ W.cell? ⟨b, o + k * 4 + 3, none⟩ = some (.int .i64 y.n))) := Lib.hid fun W hb hx => ⟨(cell_of_block (k := 5) hx rfl).1, bcell hb y0, bcell hb y1, bcell hb y2, bcell hb y3⟩
            refine wp_region_held_drew (S := fun W => (W.cell? ⟨w.heap.size, 5, none⟩ = some (.slice (some ⟨b, o, none⟩) n cx) ∧ W.cell? ⟨b, o + k * 4, none⟩ = some (.int .i64 y.nm) ∧ W.cell? ⟨b, o + k * 4 + 1, none⟩ = some (.bool y.alias) ∧ W.cell? ⟨b, o + k * 4 + 2, none⟩ = some (.int .i64 y.ttl) ∧ W.cell? ⟨b, o + k * 4 + 3, none⟩ = some (.int .i64 y.n))) (by kernel_rfl) (HSx.out _ HI.out.bl.drew HI.out.x) ?_
            intro hS
            have HDc : Hid (wr.drew.heap[a]? = _) := Lib.hid HI.out.d; have HZc : Hid (wr.drew.heap[w.heap.size + 1]? = _) := Lib.hid HI.out.z; have HXc : Hid (wr.drew.heap[w.heap.size]? = _) := Lib.hid HI.out.x; have HRw : Hid (RRow wr.drew w.heap.size A c ((x.recs.take k).map recOf)) := Lib.hid HI.out.row; have HBc : Hid (Below w.heap.size w wr.drew) := Lib.hid HI.out.bl.drew
            generalize wr.drew = wd at *
            clear hx5 y0 y1 y2 y3
            refine wpAnyH_take (i := 0) (oi := ⟨some 36, _, _, _, _, _⟩) (v := ?vt34x0) rfl (by kernel_rfl) (by kernel_rfl) (by kernel_rfl) (fun _ _ _ h => h) (Or.inl ⟨by rfl, ?hyt34x0⟩) (by exact hS) ?ret34x0
            case hyt34x0 => (intro ww hSw; (try dsimp only at hSw); go_simp; first | done | with_reducible rfl)
            try simp only [Act.put, List.setIfInBounds_toArray, List.set_cons_zero, List.set_cons_succ]
            refine wpAnyH_take (i := 2) (oi := ⟨some 38, _, _, _, _, _⟩) (v := ?vt34x2) rfl (by kernel_rfl) (by kernel_rfl) (by kernel_rfl) (fun _ _ _ h => h) (Or.inl ⟨by rfl, ?hyt34x2⟩) (by exact hS) ?ret34x2
            case hyt34x2 => (intro ww hSw; (try dsimp only at hSw); go_simp; first | done | with_reducible rfl)
            try simp only [Act.put, List.setIfInBounds_toArray, List.set_cons_zero, List.set_cons_succ]
            refine wpAnyH_take (i := 3) (oi := ⟨some 39, _, _, _, _, _⟩) (v := ?vt34x3) rfl (by kernel_rfl) (by kernel_rfl) (by kernel_rfl) (fun _ _ _ h => h) (Or.inl ⟨by rfl, ?hyt34x3⟩) (by exact hS) ?ret34x3
            case hyt34x3 => (intro ww hSw; (try dsimp only at hSw); go_simp; first | done | with_reducible rfl)
            try simp only [Act.put, List.setIfInBounds_toArray, List.set_cons_zero, List.set_cons_succ]
            refine wpAnyH_take (i := 4) (oi := ⟨some 40, _, _, _, _, _⟩) (v := ?vt34x4) rfl (by kernel_rfl) (by kernel_rfl) (by kernel_rfl) (fun _ _ _ h => h) (Or.inl ⟨by rfl, ?hyt34x4⟩) (by exact hS) ?ret34x4
            case hyt34x4 => (intro ww hSw; (try dsimp only at hSw); go_simp; first | done | with_reducible rfl)
            try simp only [Act.put, List.setIfInBounds_toArray, List.set_cons_zero, List.set_cons_succ]
            refine wpAnyH_take (i := 5) (oi := ⟨some 41, _, _, _, _, _⟩) (v := ?vt34x5) rfl (by kernel_rfl) (by kernel_rfl) (by kernel_rfl) (fun _ _ _ h => h) (Or.inl ⟨by rfl, ?hyt34x5⟩) (by exact hS) ?ret34x5
            case hyt34x5 => (intro ww hSw; (try dsimp only at hSw); go_simp; first | done | with_reducible rfl)
            try simp only [Act.put, List.setIfInBounds_toArray, List.set_cons_zero, List.set_cons_succ]
            refine wpAnyH_take (i := 6) (oi := ⟨some 42, _, _, _, _, _⟩) (v := ?vt34x6) rfl (by kernel_rfl) (by kernel_rfl) (by kernel_rfl) (fun _ _ _ h => h) (Or.inl ⟨by rfl, ?hyt34x6⟩) (by exact hS) ?ret34x6
            case hyt34x6 => (intro ww hSw; (try dsimp only at hSw); go_simp; first | done | with_reducible rfl)
            try simp only [Act.put, List.setIfInBounds_toArray, List.set_cons_zero, List.set_cons_succ]
            refine wpAnyH_ready (rs := [1, 7]) (by kernel_rfl) (by simp) ?_
            refine AllReadyH.cons (o := ⟨some 37, _, _, _, _, _⟩) rfl (fun K35 hK35 => ?sa35) ?mo35
            case sa35 =>
              have dl := (cell_of_block (k := 5) HDc.out rfl).1
              go_simp
              refine hK35.out _ _ (HSx.out _ HBc.out HXc.out) (fun h35 => ?_)
              try simp only [Act.put, List.setIfInBounds_toArray, List.set_cons_zero, List.set_cons_succ]
              clear dl
              refine wpAnyH_ready (rs := [7]) (by kernel_rfl) (by simp) ?_
              refine AllReadyH.cons (o := ⟨some 43, _, _, _, _, _⟩) rfl (fun K36 hK36 => ?_) AllReadyH.nil
              go_simp
              refine (HRO.out _).mono ?_
              rintro e w7 ⟨rfl, hb⟩
              have H7 := Lib.hid (bblock hb HDc.out); clear HDc; have HDc := H7; clear H7
              have H7 := Lib.hid (bblock hb HZc.out); clear HZc; have HZc := H7; clear H7
              have H7 := Lib.hid (bblock hb HXc.out); clear HXc; have HXc := H7; clear H7
              have H7 := Lib.hid (RRow.below HRw.out hb); clear HRw; have HRw := H7; clear H7; have H7 := Lib.hid (below_call HBc.out hb); clear HBc; have HBc := H7; clear H7 hb
              generalize recOf y = r at *
              obtain ⟨rn, rk, rt, ra, rdd⟩ := r
              dsimp only [rcells]
              refine hK36.out _ _ (HSx.out _ HBc.out HXc.out) (fun h36 => ?_)
              try simp only [Act.put, List.setIfInBounds_toArray, List.set_cons_zero, List.set_cons_succ]
              refine wpAnyH_ready (rs := [8]) (by kernel_rfl) (by simp) ?_
              refine AllReadyH.cons (o := ⟨some 44, _, _, _, _, _⟩) rfl (fun K37 hK37 => ?_) AllReadyH.nil
              go_simp
              have HN8 := Lib.hid (alloc_new w7 (.cells #[.string ⟨rn.toArray⟩, .int .i64 rk, .int .i64 rt, .int .i64 ra, .string ⟨rdd.toArray⟩] 92))
              have H8 := Lib.hid (block_alloc HDc.out (.cells #[.string ⟨rn.toArray⟩, .int .i64 rk, .int .i64 rt, .int .i64 ra, .string ⟨rdd.toArray⟩] 92)); clear HDc; have HDc := H8; clear H8
              have H8 := Lib.hid (block_alloc HZc.out (.cells #[.string ⟨rn.toArray⟩, .int .i64 rk, .int .i64 rt, .int .i64 ra, .string ⟨rdd.toArray⟩] 92)); clear HZc; have HZc := H8; clear H8
              have H8 := Lib.hid (block_alloc HXc.out (.cells #[.string ⟨rn.toArray⟩, .int .i64 rk, .int .i64 rt, .int .i64 ra, .string ⟨rdd.toArray⟩] 92)); clear HXc; have HXc := H8; clear H8
              have H8 := Lib.hid (RRow.below HRw.out ((Below.refl w7.heap.size w7).alloc (Nat.le_refl _) (.cells #[.string ⟨rn.toArray⟩, .int .i64 rk, .int .i64 rt, .int .i64 ra, .string ⟨rdd.toArray⟩] 92))); clear HRw; have HRw := H8; clear H8; have H8 := Lib.hid (below_alloc (o := .cells #[.string ⟨rn.toArray⟩, .int .i64 rk, .int .i64 rt, .int .i64 ra, .string ⟨rdd.toArray⟩] 92) HBc.out); clear HBc; have HBc := H8; clear H8
              have hs8 : w7.heap.size + 1 = (w7.alloc (.cells #[.string ⟨rn.toArray⟩, .int .i64 rk, .int .i64 rt, .int .i64 ra, .string ⟨rdd.toArray⟩] 92)).heap.size := by simp
              generalize w7.alloc (.cells #[.string ⟨rn.toArray⟩, .int .i64 rk, .int .i64 rt, .int .i64 ra, .string ⟨rdd.toArray⟩] 92) = w8 at *
              refine hK37.out _ _ (HSx.out _ HBc.out HXc.out) (fun h37 => ?_)
              try simp only [Act.put, List.setIfInBounds_toArray, List.set_cons_zero, List.set_cons_succ]
              obtain ⟨i0, hi, hz0, hz1, hz2⟩ := info_parts infoRecF
              have lDc := blk_lt HDc.out
              refine wpAnyH_ready (rs := [9]) (by kernel_rfl) (by simp) ?_
              refine AllReadyH.cons (o := ⟨some 45, _, _, _, _, _⟩) rfl (fun K38 hK38 => ?_) AllReadyH.nil
              have HC8 : Hid (([⟨rn, rk, rt, ra, rdd⟩] : List Rec).flatMap rcells = [.string ⟨rn.toArray⟩, .int .i64 rk, .int .i64 rt, .int .i64 ra, .string ⟨rdd.toArray⟩]) := Lib.hid rfl
              refine step_app rfl (.tmp 37) (.tmp 44) 37 rfl HRw.out rcells_len i0 _ 56 Tryz.underlying37 hi hz0 hz1 hz2 rfl (by decide) k hln _ _ _ [⟨rn, rk, rt, ra, rdd⟩] rfl rfl rfl (fun _ => ⟨_, rfl, by rw [HC8.out]; exact World.news_of_block HN8.out⟩) (by rw [HC8.out]; intro u hu; simp at hu; rcases hu with rfl | rfl | rfl | rfl | rfl <;> rfl) (by unfold maxLen; omega) (by omega) (by omega) ?_
              intro A2 c2 w9 ho hg ha
              have hoD := HRw.out.off HDc.out; have hoZ := HRw.out.off HZc.out; have hoX := HRw.out.offx HXc.out
              have H9 := Lib.hid ((hg.block _ (blk_lt HDc.out) (fun e => hoD (ob_bk e.symm))).trans HDc.out); clear HDc; have HDc := H9; clear H9
              have H9 := Lib.hid ((hg.block _ (blk_lt HZc.out) (fun e => hoZ (ob_bk e.symm))).trans HZc.out); clear HZc; have HZc := H9; clear H9
              have H9 := Lib.hid ((hg.block _ (blk_lt HXc.out) (fun e => hoX (ob_bk e.symm))).trans HXc.out); clear HXc; have HXc := H9; clear H9
              have H9 : Hid (Below w.heap.size w w9) := Lib.hid ⟨hg.os.trans HBc.out.os, hg.tape.trans HBc.out.tape, hg.output.trans HBc.out.output, Nat.le_trans HBc.out.size hg.size, fun i hi2 => (hg.block i (by have := HBc.out.size; omega) (fun e => by have := (HRw.out.bk' (ob_bk e.symm)).1; omega)).trans (HBc.out.block i hi2)⟩; clear HBc; have HBc := H9; clear H9
              have HRw9 : Hid (RRow w9 w.heap.size A2 c2 (_ ++ [⟨rn, rk, rt, ra, rdd⟩])) := Lib.hid ho
              clear ho hg ha hoD hoZ hoX HRw
              refine hK38.out _ _ (HSx.out _ HBc.out HXc.out) (fun h38 => ?_)
              try simp only [Act.put, List.setIfInBounds_toArray, List.set_cons_zero, List.set_cons_succ]
              refine wpAnyH_take (i := 10) (oi := ⟨some 46, _, _, _, _, _⟩) (v := ?vt39x10) rfl (by kernel_rfl) (by kernel_rfl) (by kernel_rfl) (fun _ _ _ h => h) (Or.inl ⟨by rfl, ?hyt39x10⟩) (by exact (by exact HSx.out _ HBc.out HXc.out)) ?ret39x10
              case hyt39x10 => (intro ww hSw; (try dsimp only at hSw); go_simp; first | done | with_reducible rfl)
              try simp only [Act.put, List.setIfInBounds_toArray, List.set_cons_zero, List.set_cons_succ]
              refine wpAnyH_ready (rs := [11]) (by kernel_rfl) (by simp) ?_
              refine AllReadyH.cons (o := ⟨none, _, _, _, _, _⟩) rfl (fun K40 hK40 => ?_) AllReadyH.nil
              have d9 := (cell_of_block (k := 5) HDc.out rfl).1; have z9 := (cell_of_block (k := 5) HDc.out rfl).2
              go_simp
              have hoD9 := HRw9.out.off HDc.out
              have HX9 := Lib.hid (block_set_other (a := ⟨a, 5, none⟩) (u := .slice A2 (k + 1) c2) HXc.out (by first | (simp; done) | (simp; omega))); have HZ9 := Lib.hid (block_set_other (a := ⟨a, 5, none⟩) (u := .slice A2 (k + 1) c2) HZc.out (by first | (simp; done) | (simp; omega))); have HB9 := Lib.hid (Below.setCell HBc.out (p := ⟨a, 5, none⟩) (by show w.heap.size ≤ a; omega) (.slice A2 (k + 1) c2))
              have HD9 := Lib.hid (cells_eq (b := #[.int .i64 id1, .bool true, .int .i64 c1, .string ⟨N1.toArray⟩, .int .i64 2, .slice A2 (k + 1) c2]) (block_setCell (k := 5) (v := .slice A2 (k + 1) c2) HDc.out) rfl)
              have HR9 : Hid (RRow (w9.setCell ⟨a, 5, none⟩ (.slice A2 (k + 1) c2)) w.heap.size A2 c2 ((x.recs.take (k + 1)).map recOf)) := Lib.hid (by rw [HT.out]; exact SRow.kept HRw9.out (fun x hx => by have hne : a ≠ x.block := fun e => hoD9 ⟨x, hx, e.symm⟩; simp [World.setCell, Array.getElem?_modify, hne]))
              clear hoD9
              refine hK40.out _ _ (HSx.out _ HB9.out HX9.out) (fun h40 => ?_)
              try simp only [Act.put, List.setIfInBounds_toArray, List.set_cons_zero, List.set_cons_succ]
              refine wpAnyH_done (by kernel_rfl) ?_ _
              clear d9 z9
              have HLn : Hid (((x.recs.take (k + 1)).map recOf).length = k + 1) := Lib.hid (by rw [HT.out, List.length_append, hln]; rfl)
              go_wp2_with fail
              exact ⟨⟨k + 1, A2, c2, by omega, by omega, by go_num, HX9.out, HZ9.out, HD9.out, HR9.out, HLn.out, HB9.out⟩, by simp [Go.RowKit.intOf]; omega⟩
            case mo35 =>
              refine AllReadyH.cons (o := ⟨some 43, _, _, _, _, _⟩) rfl (fun K41 hK41 => ?_) AllReadyH.nil
              go_simp
              refine (HRO.out _).mono ?_
              rintro e w7 ⟨rfl, hb⟩
              have H7 := Lib.hid (bblock hb HDc.out); clear HDc; have HDc := H7; clear H7
              have H7 := Lib.hid (bblock hb HZc.out); clear HZc; have HZc := H7; clear H7
              have H7 := Lib.hid (bblock hb HXc.out); clear HXc; have HXc := H7; clear H7
              have H7 := Lib.hid (RRow.below HRw.out hb); clear HRw; have HRw := H7; clear H7; have H7 := Lib.hid (below_call HBc.out hb); clear HBc; have HBc := H7; clear H7 hb
              generalize recOf y = r at *
              obtain ⟨rn, rk, rt, ra, rdd⟩ := r
              dsimp only [rcells]
              refine hK41.out _ _ (HSx.out _ HBc.out HXc.out) (fun h41 => ?_)
              try simp only [Act.put, List.setIfInBounds_toArray, List.set_cons_zero, List.set_cons_succ]
              refine wpAnyH_ready (rs := [1, 8]) (by kernel_rfl) (by simp) ?_
              refine AllReadyH.cons (o := ⟨some 37, _, _, _, _, _⟩) rfl (fun K42 hK42 => ?sa42) ?mo42
              case sa42 =>
                have dl := (cell_of_block (k := 5) HDc.out rfl).1
                go_simp
                refine hK42.out _ _ (HSx.out _ HBc.out HXc.out) (fun h42 => ?_)
                try simp only [Act.put, List.setIfInBounds_toArray, List.set_cons_zero, List.set_cons_succ]
                clear dl
                refine wpAnyH_ready (rs := [8]) (by kernel_rfl) (by simp) ?_
                refine AllReadyH.cons (o := ⟨some 44, _, _, _, _, _⟩) rfl (fun K43 hK43 => ?_) AllReadyH.nil
                go_simp
                have HN8 := Lib.hid (alloc_new w7 (.cells #[.string ⟨rn.toArray⟩, .int .i64 rk, .int .i64 rt, .int .i64 ra, .string ⟨rdd.toArray⟩] 92))
                have H8 := Lib.hid (block_alloc HDc.out (.cells #[.string ⟨rn.toArray⟩, .int .i64 rk, .int .i64 rt, .int .i64 ra, .string ⟨rdd.toArray⟩] 92)); clear HDc; have HDc := H8; clear H8
                have H8 := Lib.hid (block_alloc HZc.out (.cells #[.string ⟨rn.toArray⟩, .int .i64 rk, .int .i64 rt, .int .i64 ra, .string ⟨rdd.toArray⟩] 92)); clear HZc; have HZc := H8; clear H8
                have H8 := Lib.hid (block_alloc HXc.out (.cells #[.string ⟨rn.toArray⟩, .int .i64 rk, .int .i64 rt, .int .i64 ra, .string ⟨rdd.toArray⟩] 92)); clear HXc; have HXc := H8; clear H8
                have H8 := Lib.hid (RRow.below HRw.out ((Below.refl w7.heap.size w7).alloc (Nat.le_refl _) (.cells #[.string ⟨rn.toArray⟩, .int .i64 rk, .int .i64 rt, .int .i64 ra, .string ⟨rdd.toArray⟩] 92))); clear HRw; have HRw := H8; clear H8; have H8 := Lib.hid (below_alloc (o := .cells #[.string ⟨rn.toArray⟩, .int .i64 rk, .int .i64 rt, .int .i64 ra, .string ⟨rdd.toArray⟩] 92) HBc.out); clear HBc; have HBc := H8; clear H8
                have hs8 : w7.heap.size + 1 = (w7.alloc (.cells #[.string ⟨rn.toArray⟩, .int .i64 rk, .int .i64 rt, .int .i64 ra, .string ⟨rdd.toArray⟩] 92)).heap.size := by simp
                generalize w7.alloc (.cells #[.string ⟨rn.toArray⟩, .int .i64 rk, .int .i64 rt, .int .i64 ra, .string ⟨rdd.toArray⟩] 92) = w8 at *
                refine hK43.out _ _ (HSx.out _ HBc.out HXc.out) (fun h43 => ?_)
                try simp only [Act.put, List.setIfInBounds_toArray, List.set_cons_zero, List.set_cons_succ]
                obtain ⟨i0, hi, hz0, hz1, hz2⟩ := info_parts infoRecF
                have lDc := blk_lt HDc.out
                refine wpAnyH_ready (rs := [9]) (by kernel_rfl) (by simp) ?_
                refine AllReadyH.cons (o := ⟨some 45, _, _, _, _, _⟩) rfl (fun K44 hK44 => ?_) AllReadyH.nil
                have HC8 : Hid (([⟨rn, rk, rt, ra, rdd⟩] : List Rec).flatMap rcells = [.string ⟨rn.toArray⟩, .int .i64 rk, .int .i64 rt, .int .i64 ra, .string ⟨rdd.toArray⟩]) := Lib.hid rfl
                refine step_app rfl (.tmp 37) (.tmp 44) 37 rfl HRw.out rcells_len i0 _ 56 Tryz.underlying37 hi hz0 hz1 hz2 rfl (by decide) k hln _ _ _ [⟨rn, rk, rt, ra, rdd⟩] rfl rfl rfl (fun _ => ⟨_, rfl, by rw [HC8.out]; exact World.news_of_block HN8.out⟩) (by rw [HC8.out]; intro u hu; simp at hu; rcases hu with rfl | rfl | rfl | rfl | rfl <;> rfl) (by unfold maxLen; omega) (by omega) (by omega) ?_
                intro A2 c2 w9 ho hg ha
                have hoD := HRw.out.off HDc.out; have hoZ := HRw.out.off HZc.out; have hoX := HRw.out.offx HXc.out
                have H9 := Lib.hid ((hg.block _ (blk_lt HDc.out) (fun e => hoD (ob_bk e.symm))).trans HDc.out); clear HDc; have HDc := H9; clear H9
                have H9 := Lib.hid ((hg.block _ (blk_lt HZc.out) (fun e => hoZ (ob_bk e.symm))).trans HZc.out); clear HZc; have HZc := H9; clear H9
                have H9 := Lib.hid ((hg.block _ (blk_lt HXc.out) (fun e => hoX (ob_bk e.symm))).trans HXc.out); clear HXc; have HXc := H9; clear H9
                have H9 : Hid (Below w.heap.size w w9) := Lib.hid ⟨hg.os.trans HBc.out.os, hg.tape.trans HBc.out.tape, hg.output.trans HBc.out.output, Nat.le_trans HBc.out.size hg.size, fun i hi2 => (hg.block i (by have := HBc.out.size; omega) (fun e => by have := (HRw.out.bk' (ob_bk e.symm)).1; omega)).trans (HBc.out.block i hi2)⟩; clear HBc; have HBc := H9; clear H9
                have HRw9 : Hid (RRow w9 w.heap.size A2 c2 (_ ++ [⟨rn, rk, rt, ra, rdd⟩])) := Lib.hid ho
                clear ho hg ha hoD hoZ hoX HRw
                refine hK44.out _ _ (HSx.out _ HBc.out HXc.out) (fun h44 => ?_)
                try simp only [Act.put, List.setIfInBounds_toArray, List.set_cons_zero, List.set_cons_succ]
                refine wpAnyH_take (i := 10) (oi := ⟨some 46, _, _, _, _, _⟩) (v := ?vt45x10) rfl (by kernel_rfl) (by kernel_rfl) (by kernel_rfl) (fun _ _ _ h => h) (Or.inl ⟨by rfl, ?hyt45x10⟩) (by exact (by exact HSx.out _ HBc.out HXc.out)) ?ret45x10
                case hyt45x10 => (intro ww hSw; (try dsimp only at hSw); go_simp; first | done | with_reducible rfl)
                try simp only [Act.put, List.setIfInBounds_toArray, List.set_cons_zero, List.set_cons_succ]
                refine wpAnyH_ready (rs := [11]) (by kernel_rfl) (by simp) ?_
                refine AllReadyH.cons (o := ⟨none, _, _, _, _, _⟩) rfl (fun K46 hK46 => ?_) AllReadyH.nil
                have d9 := (cell_of_block (k := 5) HDc.out rfl).1; have z9 := (cell_of_block (k := 5) HDc.out rfl).2
                go_simp
                have hoD9 := HRw9.out.off HDc.out
                have HX9 := Lib.hid (block_set_other (a := ⟨a, 5, none⟩) (u := .slice A2 (k + 1) c2) HXc.out (by first | (simp; done) | (simp; omega))); have HZ9 := Lib.hid (block_set_other (a := ⟨a, 5, none⟩) (u := .slice A2 (k + 1) c2) HZc.out (by first | (simp; done) | (simp; omega))); have HB9 := Lib.hid (Below.setCell HBc.out (p := ⟨a, 5, none⟩) (by show w.heap.size ≤ a; omega) (.slice A2 (k + 1) c2))
                have HD9 := Lib.hid (cells_eq (b := #[.int .i64 id1, .bool true, .int .i64 c1, .string ⟨N1.toArray⟩, .int .i64 2, .slice A2 (k + 1) c2]) (block_setCell (k := 5) (v := .slice A2 (k + 1) c2) HDc.out) rfl)
                have HR9 : Hid (RRow (w9.setCell ⟨a, 5, none⟩ (.slice A2 (k + 1) c2)) w.heap.size A2 c2 ((x.recs.take (k + 1)).map recOf)) := Lib.hid (by rw [HT.out]; exact SRow.kept HRw9.out (fun x hx => by have hne : a ≠ x.block := fun e => hoD9 ⟨x, hx, e.symm⟩; simp [World.setCell, Array.getElem?_modify, hne]))
                clear hoD9
                refine hK46.out _ _ (HSx.out _ HB9.out HX9.out) (fun h46 => ?_)
                try simp only [Act.put, List.setIfInBounds_toArray, List.set_cons_zero, List.set_cons_succ]
                refine wpAnyH_done (by kernel_rfl) ?_ _
                clear d9 z9
                have HLn : Hid (((x.recs.take (k + 1)).map recOf).length = k + 1) := Lib.hid (by rw [HT.out, List.length_append, hln]; rfl)
                go_wp2_with fail
                exact ⟨⟨k + 1, A2, c2, by omega, by omega, by go_num, HX9.out, HZ9.out, HD9.out, HR9.out, HLn.out, HB9.out⟩, by simp [Go.RowKit.intOf]; omega⟩
              case mo42 =>
                refine AllReadyH.cons (o := ⟨some 44, _, _, _, _, _⟩) rfl (fun K47 hK47 => ?_) AllReadyH.nil
                go_simp
                have HN8 := Lib.hid (alloc_new w7 (.cells #[.string ⟨rn.toArray⟩, .int .i64 rk, .int .i64 rt, .int .i64 ra, .string ⟨rdd.toArray⟩] 92))
                have H8 := Lib.hid (block_alloc HDc.out (.cells #[.string ⟨rn.toArray⟩, .int .i64 rk, .int .i64 rt, .int .i64 ra, .string ⟨rdd.toArray⟩] 92)); clear HDc; have HDc := H8; clear H8
                have H8 := Lib.hid (block_alloc HZc.out (.cells #[.string ⟨rn.toArray⟩, .int .i64 rk, .int .i64 rt, .int .i64 ra, .string ⟨rdd.toArray⟩] 92)); clear HZc; have HZc := H8; clear H8
                have H8 := Lib.hid (block_alloc HXc.out (.cells #[.string ⟨rn.toArray⟩, .int .i64 rk, .int .i64 rt, .int .i64 ra, .string ⟨rdd.toArray⟩] 92)); clear HXc; have HXc := H8; clear H8
                have H8 := Lib.hid (RRow.below HRw.out ((Below.refl w7.heap.size w7).alloc (Nat.le_refl _) (.cells #[.string ⟨rn.toArray⟩, .int .i64 rk, .int .i64 rt, .int .i64 ra, .string ⟨rdd.toArray⟩] 92))); clear HRw; have HRw := H8; clear H8; have H8 := Lib.hid (below_alloc (o := .cells #[.string ⟨rn.toArray⟩, .int .i64 rk, .int .i64 rt, .int .i64 ra, .string ⟨rdd.toArray⟩] 92) HBc.out); clear HBc; have HBc := H8; clear H8
                have hs8 : w7.heap.size + 1 = (w7.alloc (.cells #[.string ⟨rn.toArray⟩, .int .i64 rk, .int .i64 rt, .int .i64 ra, .string ⟨rdd.toArray⟩] 92)).heap.size := by simp
                generalize w7.alloc (.cells #[.string ⟨rn.toArray⟩, .int .i64 rk, .int .i64 rt, .int .i64 ra, .string ⟨rdd.toArray⟩] 92) = w8 at *
                refine hK47.out _ _ (HSx.out _ HBc.out HXc.out) (fun h47 => ?_)
                try simp only [Act.put, List.setIfInBounds_toArray, List.set_cons_zero, List.set_cons_succ]
                refine wpAnyH_ready (rs := [1]) (by kernel_rfl) (by simp) ?_
                refine AllReadyH.cons (o := ⟨some 37, _, _, _, _, _⟩) rfl (fun K48 hK48 => ?_) AllReadyH.nil
                have dl := (cell_of_block (k := 5) HDc.out rfl).1
                go_simp
                refine hK48.out _ _ (HSx.out _ HBc.out HXc.out) (fun h48 => ?_)
                try simp only [Act.put, List.setIfInBounds_toArray, List.set_cons_zero, List.set_cons_succ]
                clear dl
                obtain ⟨i0, hi, hz0, hz1, hz2⟩ := info_parts infoRecF
                have lDc := blk_lt HDc.out
                refine wpAnyH_ready (rs := [9]) (by kernel_rfl) (by simp) ?_
                refine AllReadyH.cons (o := ⟨some 45, _, _, _, _, _⟩) rfl (fun K49 hK49 => ?_) AllReadyH.nil
                have HC8 : Hid (([⟨rn, rk, rt, ra, rdd⟩] : List Rec).flatMap rcells = [.string ⟨rn.toArray⟩, .int .i64 rk, .int .i64 rt, .int .i64 ra, .string ⟨rdd.toArray⟩]) := Lib.hid rfl
                refine step_app rfl (.tmp 37) (.tmp 44) 37 rfl HRw.out rcells_len i0 _ 56 Tryz.underlying37 hi hz0 hz1 hz2 rfl (by decide) k hln _ _ _ [⟨rn, rk, rt, ra, rdd⟩] rfl rfl rfl (fun _ => ⟨_, rfl, by rw [HC8.out]; exact World.news_of_block HN8.out⟩) (by rw [HC8.out]; intro u hu; simp at hu; rcases hu with rfl | rfl | rfl | rfl | rfl <;> rfl) (by unfold maxLen; omega) (by omega) (by omega) ?_
                intro A2 c2 w9 ho hg ha
                have hoD := HRw.out.off HDc.out; have hoZ := HRw.out.off HZc.out; have hoX := HRw.out.offx HXc.out
                have H9 := Lib.hid ((hg.block _ (blk_lt HDc.out) (fun e => hoD (ob_bk e.symm))).trans HDc.out); clear HDc; have HDc := H9; clear H9
                have H9 := Lib.hid ((hg.block _ (blk_lt HZc.out) (fun e => hoZ (ob_bk e.symm))).trans HZc.out); clear HZc; have HZc := H9; clear H9
                have H9 := Lib.hid ((hg.block _ (blk_lt HXc.out) (fun e => hoX (ob_bk e.symm))).trans HXc.out); clear HXc; have HXc := H9; clear H9
                have H9 : Hid (Below w.heap.size w w9) := Lib.hid ⟨hg.os.trans HBc.out.os, hg.tape.trans HBc.out.tape, hg.output.trans HBc.out.output, Nat.le_trans HBc.out.size hg.size, fun i hi2 => (hg.block i (by have := HBc.out.size; omega) (fun e => by have := (HRw.out.bk' (ob_bk e.symm)).1; omega)).trans (HBc.out.block i hi2)⟩; clear HBc; have HBc := H9; clear H9
                have HRw9 : Hid (RRow w9 w.heap.size A2 c2 (_ ++ [⟨rn, rk, rt, ra, rdd⟩])) := Lib.hid ho
                clear ho hg ha hoD hoZ hoX HRw
                refine hK49.out _ _ (HSx.out _ HBc.out HXc.out) (fun h49 => ?_)
                try simp only [Act.put, List.setIfInBounds_toArray, List.set_cons_zero, List.set_cons_succ]
                refine wpAnyH_take (i := 10) (oi := ⟨some 46, _, _, _, _, _⟩) (v := ?vt50x10) rfl (by kernel_rfl) (by kernel_rfl) (by kernel_rfl) (fun _ _ _ h => h) (Or.inl ⟨by rfl, ?hyt50x10⟩) (by exact (by exact HSx.out _ HBc.out HXc.out)) ?ret50x10
                case hyt50x10 => (intro ww hSw; (try dsimp only at hSw); go_simp; first | done | with_reducible rfl)
                try simp only [Act.put, List.setIfInBounds_toArray, List.set_cons_zero, List.set_cons_succ]
                refine wpAnyH_ready (rs := [11]) (by kernel_rfl) (by simp) ?_
                refine AllReadyH.cons (o := ⟨none, _, _, _, _, _⟩) rfl (fun K51 hK51 => ?_) AllReadyH.nil
                have d9 := (cell_of_block (k := 5) HDc.out rfl).1; have z9 := (cell_of_block (k := 5) HDc.out rfl).2
                go_simp
                have hoD9 := HRw9.out.off HDc.out
                have HX9 := Lib.hid (block_set_other (a := ⟨a, 5, none⟩) (u := .slice A2 (k + 1) c2) HXc.out (by first | (simp; done) | (simp; omega))); have HZ9 := Lib.hid (block_set_other (a := ⟨a, 5, none⟩) (u := .slice A2 (k + 1) c2) HZc.out (by first | (simp; done) | (simp; omega))); have HB9 := Lib.hid (Below.setCell HBc.out (p := ⟨a, 5, none⟩) (by show w.heap.size ≤ a; omega) (.slice A2 (k + 1) c2))
                have HD9 := Lib.hid (cells_eq (b := #[.int .i64 id1, .bool true, .int .i64 c1, .string ⟨N1.toArray⟩, .int .i64 2, .slice A2 (k + 1) c2]) (block_setCell (k := 5) (v := .slice A2 (k + 1) c2) HDc.out) rfl)
                have HR9 : Hid (RRow (w9.setCell ⟨a, 5, none⟩ (.slice A2 (k + 1) c2)) w.heap.size A2 c2 ((x.recs.take (k + 1)).map recOf)) := Lib.hid (by rw [HT.out]; exact SRow.kept HRw9.out (fun x hx => by have hne : a ≠ x.block := fun e => hoD9 ⟨x, hx, e.symm⟩; simp [World.setCell, Array.getElem?_modify, hne]))
                clear hoD9
                refine hK51.out _ _ (HSx.out _ HB9.out HX9.out) (fun h51 => ?_)
                try simp only [Act.put, List.setIfInBounds_toArray, List.set_cons_zero, List.set_cons_succ]
                refine wpAnyH_done (by kernel_rfl) ?_ _
                clear d9 z9
                have HLn : Hid (((x.recs.take (k + 1)).map recOf).length = k + 1) := Lib.hid (by rw [HT.out, List.length_append, hln]; rfl)
                go_wp2_with fail
                exact ⟨⟨k + 1, A2, c2, by omega, by omega, by go_num, HX9.out, HZ9.out, HD9.out, HR9.out, HLn.out, HB9.out⟩, by simp [Go.RowKit.intOf]; omega⟩
          · have HEn : Hid ((x.recs.take 8).map recOf = (x.recs.take k).map recOf) := Lib.hid (by congr 1; by_cases h8 : k = 8; rw [h8]; rw [List.take_of_length_le (by omega), List.take_of_length_le (by omega)])
            obtain ⟨⟨p0, p1, p2, p3, p4, p5⟩, f0, f1, f2, f3, f4, f5⟩ := cells6 HI.out.d
            obtain ⟨⟨q0, q1, q2, q3, q4, q5⟩, g0, g1, g2, g3, g4, g5⟩ := cells6 HI.out.z
            by_cases hkn : k < n
            · have hkl : decide ((k : Int) < (n : Int)) = true := decide_eq_true (by omega)
              have hkl8 : decide ((k : Int) < 8) = false := decide_eq_false (by omega)
              go_wp2_with fail
              have hoff := HI.out.row.off HI.out.z
              have HRowF : RRow _ w.heap.size A c ((x.recs.take k).map recOf) := SRow.kept HI.out.row (W' := (World.setCell (World.setCell (World.setCell (World.setCell (World.setCell (World.setCell wr ⟨w.heap.size + 1, 0, none⟩ (.int .i64 id1)) ⟨w.heap.size + 1, 1, none⟩ (.bool true)) ⟨w.heap.size + 1, 2, none⟩ (.int .i64 c1)) ⟨w.heap.size + 1, 3, none⟩ (.string ⟨N1.toArray⟩)) ⟨w.heap.size + 1, 4, none⟩ (.int .i64 2)) ⟨w.heap.size + 1, 5, none⟩ (.slice A k c))) (fun x hx => by have hne : w.heap.size + 1 ≠ x.block := fun e => hoff ⟨x, hx, e.symm⟩; simp [World.setCell, Array.getElem?_modify, hne])
              have HY := cells_eq (b := #[.int .i64 id1, .bool true, .int .i64 c1, .string ⟨N1.toArray⟩, .int .i64 2, .slice A k c]) (block_setCell (k := 5) (v := .slice A k c) (block_setCell (k := 4) (v := .int .i64 2) (block_setCell (k := 3) (v := .string ⟨N1.toArray⟩) (block_setCell (k := 2) (v := .int .i64 c1) (block_setCell (k := 1) (v := .bool true) (block_setCell (k := 0) (v := .int .i64 id1) HI.out.z)))))) rfl
              have HBf := (Below.setCell (Below.setCell (Below.setCell (Below.setCell (Below.setCell (Below.setCell HI.out.bl (p := ⟨w.heap.size + 1, 0, none⟩) (by simp) (.int .i64 id1)) (p := ⟨w.heap.size + 1, 1, none⟩) (by simp) (.bool true)) (p := ⟨w.heap.size + 1, 2, none⟩) (by simp) (.int .i64 c1)) (p := ⟨w.heap.size + 1, 3, none⟩) (by simp) (.string ⟨N1.toArray⟩)) (p := ⟨w.heap.size + 1, 4, none⟩) (by simp) (.int .i64 2)) (p := ⟨w.heap.size + 1, 5, none⟩) (by simp) (.slice A k c))
              refine bodyPost_ret (v := .agg #[.int .i64 id1, .bool true, .int .i64 c1, .string ⟨N1.toArray⟩, .int .i64 2, .slice A k c]) (res_cell1 Tryz.results8 (by exact HY) rfl Tryz.underlying39 rfl infoMsg) rfl (HPost.out ⟨id1, true, c1, N1, 2, (x.recs.take k).map recOf⟩ _ _ (by rw [HEq.out, ← HEn.out]; rfl) ⟨A, c, ?_, HRowF, HBf⟩)
              unfold mcells; dsimp only; rw [hln]
            · have hkl : decide ((k : Int) < (n : Int)) = false := decide_eq_false (by omega)
              go_wp2_with fail
              have hoff := HI.out.row.off HI.out.z
              have HRowF : RRow _ w.heap.size A c ((x.recs.take k).map recOf) := SRow.kept HI.out.row (W' := (World.setCell (World.setCell (World.setCell (World.setCell (World.setCell (World.setCell wr ⟨w.heap.size + 1, 0, none⟩ (.int .i64 id1)) ⟨w.heap.size + 1, 1, none⟩ (.bool true)) ⟨w.heap.size + 1, 2, none⟩ (.int .i64 c1)) ⟨w.heap.size + 1, 3, none⟩ (.string ⟨N1.toArray⟩)) ⟨w.heap.size + 1, 4, none⟩ (.int .i64 2)) ⟨w.heap.size + 1, 5, none⟩ (.slice A k c))) (fun x hx => by have hne : w.heap.size + 1 ≠ x.block := fun e => hoff ⟨x, hx, e.symm⟩; simp [World.setCell, Array.getElem?_modify, hne])
              have HY := cells_eq (b := #[.int .i64 id1, .bool true, .int .i64 c1, .string ⟨N1.toArray⟩, .int .i64 2, .slice A k c]) (block_setCell (k := 5) (v := .slice A k c) (block_setCell (k := 4) (v := .int .i64 2) (block_setCell (k := 3) (v := .string ⟨N1.toArray⟩) (block_setCell (k := 2) (v := .int .i64 c1) (block_setCell (k := 1) (v := .bool true) (block_setCell (k := 0) (v := .int .i64 id1) HI.out.z)))))) rfl
              have HBf := (Below.setCell (Below.setCell (Below.setCell (Below.setCell (Below.setCell (Below.setCell HI.out.bl (p := ⟨w.heap.size + 1, 0, none⟩) (by simp) (.int .i64 id1)) (p := ⟨w.heap.size + 1, 1, none⟩) (by simp) (.bool true)) (p := ⟨w.heap.size + 1, 2, none⟩) (by simp) (.int .i64 c1)) (p := ⟨w.heap.size + 1, 3, none⟩) (by simp) (.string ⟨N1.toArray⟩)) (p := ⟨w.heap.size + 1, 4, none⟩) (by simp) (.int .i64 2)) (p := ⟨w.heap.size + 1, 5, none⟩) (by simp) (.slice A k c))
              refine bodyPost_ret (v := .agg #[.int .i64 id1, .bool true, .int .i64 c1, .string ⟨N1.toArray⟩, .int .i64 2, .slice A k c]) (res_cell1 Tryz.results8 (by exact HY) rfl Tryz.underlying39 rfl infoMsg) rfl (HPost.out ⟨id1, true, c1, N1, 2, (x.recs.take k).map recOf⟩ _ _ (by rw [HEq.out, ← HEn.out]; rfl) ⟨A, c, ?_, HRowF, HBf⟩)
              unfold mcells; dsimp only; rw [hln]
end Go.Proofs.YtmgjcjacoegocaaGreatDoor.Dn
