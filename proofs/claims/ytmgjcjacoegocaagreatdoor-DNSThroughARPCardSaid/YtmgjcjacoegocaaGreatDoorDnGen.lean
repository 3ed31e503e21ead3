/-
  The generators of chapter 19's laws: pick, NameOf, RecOf.
-/
import Derived.Test.YtmgjcjacoegocaaGreatDoorDnMsg
import Derived.Test.YtmgjcjacoegocaaGreatDoorDnArg
import Derived.Deep.RegionHeld3
import Derived.Deep.QuietTactic
import Derived.Deep.DeepCutAuto
import Derived.Outline
namespace Go.Proofs.YtmgjcjacoegocaaGreatDoor.Dn
set_option maxRecDepth 100000
open Go.RowKit Go.Proofs.YtmgjcjacoegocaaGreatDoor.Wire Go.Proofs.YtmgjcjacoegocaaGreatDoor.Rw

def pick (c n : Int) : Int := if c < 0 then (-(c + 1)) % n else c % n
theorem pick_lt (c n : Int) (h : 0 < n) : 0 ≤ pick c n ∧ pick c n < n := by
  unfold pick; split
  · exact ⟨Int.emod_nonneg _ (by omega), Int.emod_lt_of_pos _ h⟩
  · exact ⟨Int.emod_nonneg _ (by omega), Int.emod_lt_of_pos _ h⟩
def In64 (x : Int) : Prop := -9223372036854775808 ≤ x ∧ x ≤ 9223372036854775807
set_option maxHeartbeats 400000 in
theorem pick_any (c n : Int) (w : World) (h0 : In64 c) (h : 1 ≤ n) (h' : n ≤ 4294967297) :
    Calls Tryz.prog 20 #[.int .i64 c, .int .i64 n] w fun e w' => e = .returned (.int .i64 (pick c n)) ∧ w = w' := by
  obtain ⟨h1, h2⟩ := h0
  have hne : (n == 0) = false := by simp; omega
  by_cases hc : c < 0
  · go_enter Tryz.func20, Tryz.ntmps20
    go_wp2
    go_ret
    exact ⟨ret_int (by unfold pick; rw [if_pos hc, ← Int.neg_tmod, Int.tmod_eq_emod_of_nonneg (by omega)]), rfl⟩
  · go_enter Tryz.func20, Tryz.ntmps20
    go_wp2
    go_ret
    exact ⟨ret_int (by unfold pick; rw [if_neg (by omega)]), rfl⟩
def names : List (List UInt8) := [[97], [98, 46, 97], [119, 119, 119, 46, 101, 120, 97, 109, 112, 108, 101], [109, 97, 105, 108, 46, 101, 120, 97, 109, 112, 108, 101], [120, 45, 49, 46, 98, 46, 97], [57], [104, 111, 115, 116, 46, 110, 101, 116], [97, 46, 98, 46, 99, 46, 100, 46, 101], [110, 115, 46, 104, 111, 115, 116, 46, 110, 101, 116], [97, 98, 99, 100, 101, 102, 103, 104, 105, 106, 107, 108, 109, 110, 111, 112, 113, 114, 115, 116, 46, 97, 98, 99, 100, 101, 102, 103, 104, 105, 106, 107, 108, 109, 110, 111, 112, 113, 114, 115, 116, 46, 97, 98, 99, 100, 101, 102, 103, 104, 105, 106, 107, 108, 109, 110, 111, 112, 113, 114]]
def nameOf (n : Int) : List UInt8 := names.getD (pick n 10).toNat []
theorem nameOf_at (n : Int) : ∃ k : Nat, k < 10 ∧ pick n 10 = (k : Int) ∧ nameOf n = names.getD k [] := by
  have h := pick_lt n 10 (by omega)
  obtain ⟨k, hk⟩ := Int.eq_ofNat_of_zero_le h.1
  refine ⟨k, by omega, hk, ?_⟩
  unfold nameOf; rw [hk, Int.toNat_natCast]
theorem names_ok : ∀ k, k < 10 → nameB (names.getD k []) = true := by decide
theorem nameOf_ok (n : Int) : nameB (nameOf n) = true := by
  obtain ⟨k, hk, -, e⟩ := nameOf_at n
  rw [e]; exact names_ok k hk
set_option maxHeartbeats 1000000 in
theorem nameOf_any (n : Int) (w : World) (hn : In64 n) :
    Calls Tryz.prog 40 #[.int .i64 n] w fun e w' => e = .returned (.string ⟨(nameOf n).toArray⟩) ∧ Below w.heap.size w w' := by
  obtain ⟨k, hk, hp, he⟩ := nameOf_at n
  have HP := Lib.hid fun W => pick_any n 10 W hn (by omega) (by omega)
  rw [hp] at HP
  rw [he]
  have hb := (Below.refl w.heap.size w).alloc (Nat.le_refl _) (.cells #[.string ⟨#[97]⟩, .string ⟨#[98, 46, 97]⟩, .string ⟨#[119, 119, 119, 46, 101, 120, 97, 109, 112, 108, 101]⟩, .string ⟨#[109, 97, 105, 108, 46, 101, 120, 97, 109, 112, 108, 101]⟩, .string ⟨#[120, 45, 49, 46, 98, 46, 97]⟩, .string ⟨#[57]⟩, .string ⟨#[104, 111, 115, 116, 46, 110, 101, 116]⟩, .string ⟨#[97, 46, 98, 46, 99, 46, 100, 46, 101]⟩, .string ⟨#[110, 115, 46, 104, 111, 115, 116, 46, 110, 101, 116]⟩, .string ⟨#[97, 98, 99, 100, 101, 102, 103, 104, 105, 106, 107, 108, 109, 110, 111, 112, 113, 114, 115, 116, 46, 97, 98, 99, 100, 101, 102, 103, 104, 105, 106, 107, 108, 109, 110, 111, 112, 113, 114, 115, 116, 46, 97, 98, 99, 100, 101, 102, 103, 104, 105, 106, 107, 108, 109, 110, 111, 112, 113, 114]⟩] 9)
  clear he hp
  match k, hk with
  | 0, _ =>
    go_enter Tryz.func40, Tryz.ntmps40
    go_wp2_with (go_at_call 20; refine (HP.out _).mono ?_; rintro e w' ⟨rfl, rfl⟩)
    go_ret
    exact ⟨rfl, hb⟩
  | 1, _ =>
    go_enter Tryz.func40, Tryz.ntmps40
    go_wp2_with (go_at_call 20; refine (HP.out _).mono ?_; rintro e w' ⟨rfl, rfl⟩)
    go_ret
    exact ⟨rfl, hb⟩
  | 2, _ =>
    go_enter Tryz.func40, Tryz.ntmps40
    go_wp2_with (go_at_call 20; refine (HP.out _).mono ?_; rintro e w' ⟨rfl, rfl⟩)
    go_ret
    exact ⟨rfl, hb⟩
  | 3, _ =>
    go_enter Tryz.func40, Tryz.ntmps40
    go_wp2_with (go_at_call 20; refine (HP.out _).mono ?_; rintro e w' ⟨rfl, rfl⟩)
    go_ret
    exact ⟨rfl, hb⟩
  | 4, _ =>
    go_enter Tryz.func40, Tryz.ntmps40
    go_wp2_with (go_at_call 20; refine (HP.out _).mono ?_; rintro e w' ⟨rfl, rfl⟩)
    go_ret
    exact ⟨rfl, hb⟩
  | 5, _ =>
    go_enter Tryz.func40, Tryz.ntmps40
    go_wp2_with (go_at_call 20; refine (HP.out _).mono ?_; rintro e w' ⟨rfl, rfl⟩)
    go_ret
    exact ⟨rfl, hb⟩
  | 6, _ =>
    go_enter Tryz.func40, Tryz.ntmps40
    go_wp2_with (go_at_call 20; refine (HP.out _).mono ?_; rintro e w' ⟨rfl, rfl⟩)
    go_ret
    exact ⟨rfl, hb⟩
  | 7, _ =>
    go_enter Tryz.func40, Tryz.ntmps40
    go_wp2_with (go_at_call 20; refine (HP.out _).mono ?_; rintro e w' ⟨rfl, rfl⟩)
    go_ret
    exact ⟨rfl, hb⟩
  | 8, _ =>
    go_enter Tryz.func40, Tryz.ntmps40
    go_wp2_with (go_at_call 20; refine (HP.out _).mono ?_; rintro e w' ⟨rfl, rfl⟩)
    go_ret
    exact ⟨rfl, hb⟩
  | 9, _ =>
    go_enter Tryz.func40, Tryz.ntmps40
    go_wp2_with (go_at_call 20; refine (HP.out _).mono ?_; rintro e w' ⟨rfl, rfl⟩)
    go_ret
    exact ⟨rfl, hb⟩
def recOf (x : RR) : Rec := ⟨nameOf x.nm, if x.alias then 2 else 1, pick x.ttl 1001, if x.alias then 0 else pick x.n 4294967296, if x.alias then nameOf x.n else []⟩
theorem recOf_ok (x : RR) : recB (recOf x) = true := by
  have h1 := nameOf_ok x.nm
  have h2 := nameOf_ok x.n
  have h3 := pick_lt x.ttl 1001 (by omega)
  have h4 := pick_lt x.n 4294967296 (by omega)
  unfold recB recOf
  simp only [h1]
  cases x.alias
  · simp; omega
  · simp [h2]; omega
theorem infoRec : (Tryz.prog.info? 92).map (·.size) = some 5 := by kernel_rfl
set_option maxHeartbeats 8000000 in
theorem recOf_any (x : RR) (w : World) (hx : x.ok) :
    Calls Tryz.prog 41 #[.agg #[.int .i64 x.nm, .bool x.alias, .int .i64 x.ttl, .int .i64 x.n]] w fun e w' => e = .returned (.agg (rcells (recOf x)).toArray) ∧ Below w.heap.size w w' := by
  obtain ⟨hx1, -, hx2, hx3⟩ := hx
  have HN := Lib.hid fun W => nameOf_any x.nm W hx1
  have HN2 := Lib.hid fun W => nameOf_any x.n W hx3
  have HT := Lib.hid fun W => pick_any x.ttl 1001 W hx2 (by omega) (by omega)
  have HA := Lib.hid fun W => pick_any x.n 4294967296 W hx3 (by omega) (by omega)
  have HE : Hid (rcells (recOf x) = [.string ⟨(nameOf x.nm).toArray⟩, .int .i64 (if x.alias then 2 else 1), .int .i64 (pick x.ttl 1001), .int .i64 (if x.alias then 0 else pick x.n 4294967296), .string ⟨(if x.alias then nameOf x.n else []).toArray⟩]) := Lib.hid rfl
  rw [HE.out]
  have HX := Lib.hid (block_alloc (alloc_new w (.cells #[.int .i64 x.nm, .bool x.alias, .int .i64 x.ttl, .int .i64 x.n] 117)) (.cells #[.string ⟨#[]⟩, .int .i64 0, .int .i64 0, .int .i64 0, .string ⟨#[]⟩] 92))
  have HZ := Lib.hid (alloc_new' (w.alloc (.cells #[.int .i64 x.nm, .bool x.alias, .int .i64 x.ttl, .int .i64 x.n] 117)) (.cells #[.string ⟨#[]⟩, .int .i64 0, .int .i64 0, .int .i64 0, .string ⟨#[]⟩] 92) (w.heap.size + 1) (by simp))
  have HB := Lib.hid (below_alloc (o := .cells #[.string ⟨#[]⟩, .int .i64 0, .int .i64 0, .int .i64 0, .string ⟨#[]⟩] 92) (below_alloc (o := .cells #[.int .i64 x.nm, .bool x.alias, .int .i64 x.ttl, .int .i64 x.n] 117) (Below.refl w.heap.size w)))
  generalize nameOf x.nm = N1 at *
  generalize nameOf x.n = N2 at *
  generalize pick x.ttl 1001 = t1 at *
  generalize pick x.n 4294967296 = t2 at *
  have hsz : w.heap.size + 2 ≤ ((w.alloc (.cells #[.int .i64 x.nm, .bool x.alias, .int .i64 x.ttl, .int .i64 x.n] 117)).alloc (.cells #[.string ⟨#[]⟩, .int .i64 0, .int .i64 0, .int .i64 0, .string ⟨#[]⟩] 92)).heap.size := by simp
  go_enter Tryz.func41, Tryz.ntmps41
  go_upto_region 1 with fail
  generalize (w.alloc (.cells #[.int .i64 x.nm, .bool x.alias, .int .i64 x.ttl, .int .i64 x.n] 117)).alloc (.cells #[.string ⟨#[]⟩, .int .i64 0, .int .i64 0, .int .i64 0, .string ⟨#[]⟩] 92) = W0 at *
  go_cut [3] (fun s3 wx => ∃ a, s3 = .pointer (some ⟨a, 0, none⟩) ∧ w.heap.size + 1 < a ∧ wx.heap[a]? = some (.cells #[.string ⟨N1.toArray⟩, .int .i64 1, .int .i64 t1, .int .i64 t2, .string ⟨#[]⟩] 92 (0, 0)) ∧ wx.heap[w.heap.size]? = some (.cells #[.int .i64 x.nm, .bool x.alias, .int .i64 x.ttl, .int .i64 x.n] 117 (0, 0)) ∧ wx.heap[w.heap.size + 1]? = some (.cells #[.string ⟨#[]⟩, .int .i64 0, .int .i64 0, .int .i64 0, .string ⟨#[]⟩] 92 (0, 0)) ∧ Below w.heap.size w wx)
  case first =>
    refine wp_region_held_drew (S := fun w' => w'.cell? ⟨w.heap.size, 0, none⟩ = some (.int .i64 x.nm) ∧ w'.cell? ⟨w.heap.size, 2, none⟩ = some (.int .i64 x.ttl) ∧ w'.cell? ⟨w.heap.size, 3, none⟩ = some (.int .i64 x.n)) (by kernel_rfl) (⟨(cell_of_block (k := 0) HX.out rfl).1, (cell_of_block (k := 2) HX.out rfl).1, (cell_of_block (k := 3) HX.out rfl).1⟩) ?_
    intro hS
    refine wpAnyH_take (i := 0) (oi := ⟨some 4, _, _, _, _, _⟩) (v := ?vt1x0) rfl (by kernel_rfl) (by kernel_rfl) (by kernel_rfl) (fun _ _ _ h => h) (Or.inl ⟨by rfl, ?hyt1x0⟩) (by exact hS) ?ret1x0
    case hyt1x0 => (intro ww hSw; (try dsimp only at hSw); go_simp; first | done | with_reducible rfl)
    try simp only [Act.put, List.setIfInBounds_toArray, List.set_cons_zero, List.set_cons_succ]
    refine wpAnyH_take (i := 1) (oi := ⟨some 5, _, _, _, _, _⟩) (v := ?vt1x1) rfl (by kernel_rfl) (by kernel_rfl) (by kernel_rfl) (fun _ _ _ h => h) (Or.inl ⟨by rfl, ?hyt1x1⟩) (by exact hS) ?ret1x1
    case hyt1x1 => (intro ww hSw; (try dsimp only at hSw); go_simp; first | done | with_reducible rfl)
    try simp only [Act.put, List.setIfInBounds_toArray, List.set_cons_zero, List.set_cons_succ]
    refine wpAnyH_take (i := 3) (oi := ⟨some 7, _, _, _, _, _⟩) (v := ?vt1x3) rfl (by kernel_rfl) (by kernel_rfl) (by kernel_rfl) (fun _ _ _ h => h) (Or.inl ⟨by rfl, ?hyt1x3⟩) (by exact hS) ?ret1x3
    case hyt1x3 => (intro ww hSw; (try dsimp only at hSw); go_simp; first | done | with_reducible rfl)
    try simp only [Act.put, List.setIfInBounds_toArray, List.set_cons_zero, List.set_cons_succ]
    refine wpAnyH_take (i := 4) (oi := ⟨some 8, _, _, _, _, _⟩) (v := ?vt1x4) rfl (by kernel_rfl) (by kernel_rfl) (by kernel_rfl) (fun _ _ _ h => h) (Or.inl ⟨by rfl, ?hyt1x4⟩) (by exact hS) ?ret1x4
    case hyt1x4 => (intro ww hSw; (try dsimp only at hSw); go_simp; first | done | with_reducible rfl)
    try simp only [Act.put, List.setIfInBounds_toArray, List.set_cons_zero, List.set_cons_succ]
    refine wpAnyH_take (i := 6) (oi := ⟨some 10, _, _, _, _, _⟩) (v := ?vt1x6) rfl (by kernel_rfl) (by kernel_rfl) (by kernel_rfl) (fun _ _ _ h => h) (Or.inl ⟨by rfl, ?hyt1x6⟩) (by exact hS) ?ret1x6
    case hyt1x6 => (intro ww hSw; (try dsimp only at hSw); go_simp; first | done | with_reducible rfl)
    try simp only [Act.put, List.setIfInBounds_toArray, List.set_cons_zero, List.set_cons_succ]
    refine wpAnyH_take (i := 7) (oi := ⟨some 11, _, _, _, _, _⟩) (v := ?vt1x7) rfl (by kernel_rfl) (by kernel_rfl) (by kernel_rfl) (fun _ _ _ h => h) (Or.inl ⟨by rfl, ?hyt1x7⟩) (by exact hS) ?ret1x7
    case hyt1x7 => (intro ww hSw; (try dsimp only at hSw); go_simp; first | done | with_reducible rfl)
    try simp only [Act.put, List.setIfInBounds_toArray, List.set_cons_zero, List.set_cons_succ]
    have HXc : Hid (W0.drew.heap[w.heap.size]? = _) := Lib.hid HX.out; have HZc : Hid (W0.drew.heap[w.heap.size + 1]? = _) := Lib.hid HZ.out; have HBc : Hid (Below w.heap.size w W0.drew) := Lib.hid HB.out.drew; have hsc : w.heap.size + 2 ≤ W0.drew.heap.size := hsz
    generalize W0.drew = wd at *
    refine wpAnyH_ready (rs := [2, 10]) (by kernel_rfl) (by simp) ?_
    refine AllReadyH.cons (o := ⟨some 6, _, _, _, _, _⟩) rfl (fun K2 hK2 => ?sa2) ?mo2
    case sa2 =>
      go_simp
      refine (HN.out _).mono ?_
      rintro e w2 ⟨rfl, hb⟩
      dsimp only
      have HXc' := Lib.hid (bblock hb HXc.out); clear HXc; have HXc := HXc'; clear HXc'
      have HZc' := Lib.hid (bblock hb HZc.out); clear HZc; have HZc := HZc'; clear HZc'
      have HBc' := Lib.hid (below_call HBc.out hb); clear HBc; have HBc := HBc'; clear HBc'; have hsc' := Nat.le_trans hsc hb.size; clear hsc; have hsc := hsc'; clear hsc'
      clear hb
      refine hK2.out _ _ (⟨(cell_of_block (k := 0) HXc.out rfl).1, (cell_of_block (k := 2) HXc.out rfl).1, (cell_of_block (k := 3) HXc.out rfl).1⟩) (fun h2 => ?_)
      try simp only [Act.put, List.setIfInBounds_toArray, List.set_cons_zero, List.set_cons_succ]
      refine wpAnyH_ready (rs := [5, 10]) (by kernel_rfl) (by simp) ?_
      refine AllReadyH.cons (o := ⟨some 9, _, _, _, _, _⟩) rfl (fun K3 hK3 => ?sa3) ?mo3
      case sa3 =>
        go_simp
        refine (HT.out _).mono ?_
        rintro e w' ⟨rfl, rfl⟩
        dsimp only
        refine hK3.out _ _ (⟨(cell_of_block (k := 0) HXc.out rfl).1, (cell_of_block (k := 2) HXc.out rfl).1, (cell_of_block (k := 3) HXc.out rfl).1⟩) (fun h3 => ?_)
        try simp only [Act.put, List.setIfInBounds_toArray, List.set_cons_zero, List.set_cons_succ]
        refine wpAnyH_ready (rs := [8, 10]) (by kernel_rfl) (by simp) ?_
        refine AllReadyH.cons (o := ⟨some 12, _, _, _, _, _⟩) rfl (fun K4 hK4 => ?sa4) ?mo4
        case sa4 =>
          go_simp
          refine (HA.out _).mono ?_
          rintro e w' ⟨rfl, rfl⟩
          dsimp only
          refine hK4.out _ _ (⟨(cell_of_block (k := 0) HXc.out rfl).1, (cell_of_block (k := 2) HXc.out rfl).1, (cell_of_block (k := 3) HXc.out rfl).1⟩) (fun h4 => ?_)
          try simp only [Act.put, List.setIfInBounds_toArray, List.set_cons_zero, List.set_cons_succ]
          refine wpAnyH_take (i := 9) (oi := ⟨some 13, _, _, _, _, _⟩) (v := ?vt5x9) rfl (by kernel_rfl) (by kernel_rfl) (by kernel_rfl) (fun _ _ _ h => h) (Or.inl ⟨by rfl, ?hyt5x9⟩) (by exact (by exact ⟨(cell_of_block (k := 0) HXc.out rfl).1, (cell_of_block (k := 2) HXc.out rfl).1, (cell_of_block (k := 3) HXc.out rfl).1⟩)) ?ret5x9
          case hyt5x9 => (intro ww hSw; (try dsimp only at hSw); go_simp; first | done | with_reducible rfl)
          try simp only [Act.put, List.setIfInBounds_toArray, List.set_cons_zero, List.set_cons_succ]
          refine wpAnyH_ready (rs := [10]) (by kernel_rfl) (by simp) ?_
          refine AllReadyH.cons (o := ⟨some 3, _, _, _, _, _⟩) rfl (fun K6 hK6 => ?_) AllReadyH.nil
          go_simp
          have HAc := Lib.hid (alloc_new w2 (.cells #[.string ⟨#[]⟩, .int .i64 0, .int .i64 0, .int .i64 0, .string ⟨#[]⟩] 92))
          have hb := (Below.refl w2.heap.size w2).alloc (Nat.le_refl _) (.cells #[.string ⟨#[]⟩, .int .i64 0, .int .i64 0, .int .i64 0, .string ⟨#[]⟩] 92)
          have hal : w.heap.size + 1 < w2.heap.size := by omega
          have HXc' := Lib.hid (bblock hb HXc.out); clear HXc; have HXc := HXc'; clear HXc'
          have HZc' := Lib.hid (bblock hb HZc.out); clear HZc; have HZc := HZc'; clear HZc'
          have HBc' := Lib.hid (below_call HBc.out hb); clear HBc; have HBc := HBc'; clear HBc'; have hsc' := Nat.le_trans hsc hb.size; clear hsc; have hsc := hsc'; clear hsc'
          clear hb
          obtain ⟨a, hae⟩ : ∃ a, w2.heap.size = a := ⟨_, rfl⟩
          rw [hae] at HAc hal ⊢
          generalize w2.alloc (.cells #[.string ⟨#[]⟩, .int .i64 0, .int .i64 0, .int .i64 0, .string ⟨#[]⟩] 92) = w6a at *
          clear hae
          refine hK6.out _ _ (⟨(cell_of_block (k := 0) HXc.out rfl).1, (cell_of_block (k := 2) HXc.out rfl).1, (cell_of_block (k := 3) HXc.out rfl).1⟩) (fun h6 => ?_)
          try simp only [Act.put, List.setIfInBounds_toArray, List.set_cons_zero, List.set_cons_succ]
          refine wpAnyH_ready (rs := [11]) (by kernel_rfl) (by simp) ?_
          refine AllReadyH.cons (o := ⟨none, _, _, _, _, _⟩) rfl (fun K7 hK7 => ?_) AllReadyH.nil
          obtain ⟨⟨p0, p1, p2, p3, p4⟩, f0, f1, f2, f3, f4⟩ := cells5 HAc.out
          go_simp
          have HXn := Lib.hid (block_set_other (a := ⟨a, 4, none⟩) (u := .string ⟨#[]⟩) (block_set_other (a := ⟨a, 3, none⟩) (u := .int .i64 t2) (block_set_other (a := ⟨a, 2, none⟩) (u := .int .i64 t1) (block_set_other (a := ⟨a, 1, none⟩) (u := .int .i64 1) (block_set_other (a := ⟨a, 0, none⟩) (u := .string ⟨N1.toArray⟩) HXc.out (by first | (simp; done) | (simp; omega))) (by first | (simp; done) | (simp; omega))) (by first | (simp; done) | (simp; omega))) (by first | (simp; done) | (simp; omega))) (by first | (simp; done) | (simp; omega))); have HZn := Lib.hid (block_set_other (a := ⟨a, 4, none⟩) (u := .string ⟨#[]⟩) (block_set_other (a := ⟨a, 3, none⟩) (u := .int .i64 t2) (block_set_other (a := ⟨a, 2, none⟩) (u := .int .i64 t1) (block_set_other (a := ⟨a, 1, none⟩) (u := .int .i64 1) (block_set_other (a := ⟨a, 0, none⟩) (u := .string ⟨N1.toArray⟩) HZc.out (by first | (simp; done) | (simp; omega))) (by first | (simp; done) | (simp; omega))) (by first | (simp; done) | (simp; omega))) (by first | (simp; done) | (simp; omega))) (by first | (simp; done) | (simp; omega))); have HBn := Lib.hid (Below.setCell (Below.setCell (Below.setCell (Below.setCell (Below.setCell HBc.out (p := ⟨a, 0, none⟩) (by show w.heap.size ≤ a; omega) (.string ⟨N1.toArray⟩)) (p := ⟨a, 1, none⟩) (by show w.heap.size ≤ a; omega) (.int .i64 1)) (p := ⟨a, 2, none⟩) (by show w.heap.size ≤ a; omega) (.int .i64 t1)) (p := ⟨a, 3, none⟩) (by show w.heap.size ≤ a; omega) (.int .i64 t2)) (p := ⟨a, 4, none⟩) (by show w.heap.size ≤ a; omega) (.string ⟨#[]⟩))
          have HAn := Lib.hid (cells_eq (b := #[.string ⟨N1.toArray⟩, .int .i64 1, .int .i64 t1, .int .i64 t2, .string ⟨#[]⟩]) (block_setCell (k := 4) (v := .string ⟨#[]⟩) (block_setCell (k := 3) (v := .int .i64 t2) (block_setCell (k := 2) (v := .int .i64 t1) (block_setCell (k := 1) (v := .int .i64 1) (block_setCell (k := 0) (v := .string ⟨N1.toArray⟩) HAc.out))))) rfl)
          clear p0 p1 p2 p3 p4 f0 f1 f2 f3 f4
          refine hK7.out _ _ (⟨(cell_of_block (k := 0) HXn.out rfl).1, (cell_of_block (k := 2) HXn.out rfl).1, (cell_of_block (k := 3) HXn.out rfl).1⟩) (fun h7 => ?_)
          try simp only [Act.put, List.setIfInBounds_toArray, List.set_cons_zero, List.set_cons_succ]
          refine wpAnyH_done (by kernel_rfl) ?_ _
          go_wp2_with fail
          go_meet
          exact ⟨a, rfl, hal, HAn.out, HXn.out, HZn.out, HBn.out⟩
        case mo4 =>
          refine AllReadyH.cons (o := ⟨some 3, _, _, _, _, _⟩) rfl (fun K8 hK8 => ?_) AllReadyH.nil
          go_simp
          have HAc := Lib.hid (alloc_new w2 (.cells #[.string ⟨#[]⟩, .int .i64 0, .int .i64 0, .int .i64 0, .string ⟨#[]⟩] 92))
          have hb := (Below.refl w2.heap.size w2).alloc (Nat.le_refl _) (.cells #[.string ⟨#[]⟩, .int .i64 0, .int .i64 0, .int .i64 0, .string ⟨#[]⟩] 92)
          have hal : w.heap.size + 1 < w2.heap.size := by omega
          have HXc' := Lib.hid (bblock hb HXc.out); clear HXc; have HXc := HXc'; clear HXc'
          have HZc' := Lib.hid (bblock hb HZc.out); clear HZc; have HZc := HZc'; clear HZc'
          have HBc' := Lib.hid (below_call HBc.out hb); clear HBc; have HBc := HBc'; clear HBc'; have hsc' := Nat.le_trans hsc hb.size; clear hsc; have hsc := hsc'; clear hsc'
          clear hb
          obtain ⟨a, hae⟩ : ∃ a, w2.heap.size = a := ⟨_, rfl⟩
          rw [hae] at HAc hal ⊢
          generalize w2.alloc (.cells #[.string ⟨#[]⟩, .int .i64 0, .int .i64 0, .int .i64 0, .string ⟨#[]⟩] 92) = w8a at *
          clear hae
          refine hK8.out _ _ (⟨(cell_of_block (k := 0) HXc.out rfl).1, (cell_of_block (k := 2) HXc.out rfl).1, (cell_of_block (k := 3) HXc.out rfl).1⟩) (fun h8 => ?_)
          try simp only [Act.put, List.setIfInBounds_toArray, List.set_cons_zero, List.set_cons_succ]
          refine wpAnyH_ready (rs := [8]) (by kernel_rfl) (by simp) ?_
          refine AllReadyH.cons (o := ⟨some 12, _, _, _, _, _⟩) rfl (fun K9 hK9 => ?_) AllReadyH.nil
          go_simp
          refine (HA.out _).mono ?_
          rintro e w' ⟨rfl, rfl⟩
          dsimp only
          refine hK9.out _ _ (⟨(cell_of_block (k := 0) HXc.out rfl).1, (cell_of_block (k := 2) HXc.out rfl).1, (cell_of_block (k := 3) HXc.out rfl).1⟩) (fun h9 => ?_)
          try simp only [Act.put, List.setIfInBounds_toArray, List.set_cons_zero, List.set_cons_succ]
          refine wpAnyH_take (i := 9) (oi := ⟨some 13, _, _, _, _, _⟩) (v := ?vt10x9) rfl (by kernel_rfl) (by kernel_rfl) (by kernel_rfl) (fun _ _ _ h => h) (Or.inl ⟨by rfl, ?hyt10x9⟩) (by exact (by exact ⟨(cell_of_block (k := 0) HXc.out rfl).1, (cell_of_block (k := 2) HXc.out rfl).1, (cell_of_block (k := 3) HXc.out rfl).1⟩)) ?ret10x9
          case hyt10x9 => (intro ww hSw; (try dsimp only at hSw); go_simp; first | done | with_reducible rfl)
          try simp only [Act.put, List.setIfInBounds_toArray, List.set_cons_zero, List.set_cons_succ]
          refine wpAnyH_ready (rs := [11]) (by kernel_rfl) (by simp) ?_
          refine AllReadyH.cons (o := ⟨none, _, _, _, _, _⟩) rfl (fun K11 hK11 => ?_) AllReadyH.nil
          obtain ⟨⟨p0, p1, p2, p3, p4⟩, f0, f1, f2, f3, f4⟩ := cells5 HAc.out
          go_simp
          have HXn := Lib.hid (block_set_other (a := ⟨a, 4, none⟩) (u := .string ⟨#[]⟩) (block_set_other (a := ⟨a, 3, none⟩) (u := .int .i64 t2) (block_set_other (a := ⟨a, 2, none⟩) (u := .int .i64 t1) (block_set_other (a := ⟨a, 1, none⟩) (u := .int .i64 1) (block_set_other (a := ⟨a, 0, none⟩) (u := .string ⟨N1.toArray⟩) HXc.out (by first | (simp; done) | (simp; omega))) (by first | (simp; done) | (simp; omega))) (by first | (simp; done) | (simp; omega))) (by first | (simp; done) | (simp; omega))) (by first | (simp; done) | (simp; omega))); have HZn := Lib.hid (block_set_other (a := ⟨a, 4, none⟩) (u := .string ⟨#[]⟩) (block_set_other (a := ⟨a, 3, none⟩) (u := .int .i64 t2) (block_set_other (a := ⟨a, 2, none⟩) (u := .int .i64 t1) (block_set_other (a := ⟨a, 1, none⟩) (u := .int .i64 1) (block_set_other (a := ⟨a, 0, none⟩) (u := .string ⟨N1.toArray⟩) HZc.out (by first | (simp; done) | (simp; omega))) (by first | (simp; done) | (simp; omega))) (by first | (simp; done) | (simp; omega))) (by first | (simp; done) | (simp; omega))) (by first | (simp; done) | (simp; omega))); have HBn := Lib.hid (Below.setCell (Below.setCell (Below.setCell (Below.setCell (Below.setCell HBc.out (p := ⟨a, 0, none⟩) (by show w.heap.size ≤ a; omega) (.string ⟨N1.toArray⟩)) (p := ⟨a, 1, none⟩) (by show w.heap.size ≤ a; omega) (.int .i64 1)) (p := ⟨a, 2, none⟩) (by show w.heap.size ≤ a; omega) (.int .i64 t1)) (p := ⟨a, 3, none⟩) (by show w.heap.size ≤ a; omega) (.int .i64 t2)) (p := ⟨a, 4, none⟩) (by show w.heap.size ≤ a; omega) (.string ⟨#[]⟩))
          have HAn := Lib.hid (cells_eq (b := #[.string ⟨N1.toArray⟩, .int .i64 1, .int .i64 t1, .int .i64 t2, .string ⟨#[]⟩]) (block_setCell (k := 4) (v := .string ⟨#[]⟩) (block_setCell (k := 3) (v := .int .i64 t2) (block_setCell (k := 2) (v := .int .i64 t1) (block_setCell (k := 1) (v := .int .i64 1) (block_setCell (k := 0) (v := .string ⟨N1.toArray⟩) HAc.out))))) rfl)
          clear p0 p1 p2 p3 p4 f0 f1 f2 f3 f4
          refine hK11.out _ _ (⟨(cell_of_block (k := 0) HXn.out rfl).1, (cell_of_block (k := 2) HXn.out rfl).1, (cell_of_block (k := 3) HXn.out rfl).1⟩) (fun h11 => ?_)
          try simp only [Act.put, List.setIfInBounds_toArray, List.set_cons_zero, List.set_cons_succ]
          refine wpAnyH_done (by kernel_rfl) ?_ _
          go_wp2_with fail
          go_meet
          exact ⟨a, rfl, hal, HAn.out, HXn.out, HZn.out, HBn.out⟩
      case mo3 =>
        refine AllReadyH.cons (o := ⟨some 3, _, _, _, _, _⟩) rfl (fun K12 hK12 => ?_) AllReadyH.nil
        go_simp
        have HAc := Lib.hid (alloc_new w2 (.cells #[.string ⟨#[]⟩, .int .i64 0, .int .i64 0, .int .i64 0, .string ⟨#[]⟩] 92))
        have hb := (Below.refl w2.heap.size w2).alloc (Nat.le_refl _) (.cells #[.string ⟨#[]⟩, .int .i64 0, .int .i64 0, .int .i64 0, .string ⟨#[]⟩] 92)
        have hal : w.heap.size + 1 < w2.heap.size := by omega
        have HXc' := Lib.hid (bblock hb HXc.out); clear HXc; have HXc := HXc'; clear HXc'
        have HZc' := Lib.hid (bblock hb HZc.out); clear HZc; have HZc := HZc'; clear HZc'
        have HBc' := Lib.hid (below_call HBc.out hb); clear HBc; have HBc := HBc'; clear HBc'; have hsc' := Nat.le_trans hsc hb.size; clear hsc; have hsc := hsc'; clear hsc'
        clear hb
        obtain ⟨a, hae⟩ : ∃ a, w2.heap.size = a := ⟨_, rfl⟩
        rw [hae] at HAc hal ⊢
        generalize w2.alloc (.cells #[.string ⟨#[]⟩, .int .i64 0, .int .i64 0, .int .i64 0, .string ⟨#[]⟩] 92) = w12a at *
        clear hae
        refine hK12.out _ _ (⟨(cell_of_block (k := 0) HXc.out rfl).1, (cell_of_block (k := 2) HXc.out rfl).1, (cell_of_block (k := 3) HXc.out rfl).1⟩) (fun h12 => ?_)
        try simp only [Act.put, List.setIfInBounds_toArray, List.set_cons_zero, List.set_cons_succ]
        refine wpAnyH_ready (rs := [5]) (by kernel_rfl) (by simp) ?_
        refine AllReadyH.cons (o := ⟨some 9, _, _, _, _, _⟩) rfl (fun K13 hK13 => ?_) AllReadyH.nil
        go_simp
        refine (HT.out _).mono ?_
        rintro e w' ⟨rfl, rfl⟩
        dsimp only
        refine hK13.out _ _ (⟨(cell_of_block (k := 0) HXc.out rfl).1, (cell_of_block (k := 2) HXc.out rfl).1, (cell_of_block (k := 3) HXc.out rfl).1⟩) (fun h13 => ?_)
        try simp only [Act.put, List.setIfInBounds_toArray, List.set_cons_zero, List.set_cons_succ]
        refine wpAnyH_ready (rs := [8]) (by kernel_rfl) (by simp) ?_
        refine AllReadyH.cons (o := ⟨some 12, _, _, _, _, _⟩) rfl (fun K14 hK14 => ?_) AllReadyH.nil
        go_simp
        refine (HA.out _).mono ?_
        rintro e w' ⟨rfl, rfl⟩
        dsimp only
        refine hK14.out _ _ (⟨(cell_of_block (k := 0) HXc.out rfl).1, (cell_of_block (k := 2) HXc.out rfl).1, (cell_of_block (k := 3) HXc.out rfl).1⟩) (fun h14 => ?_)
        try simp only [Act.put, List.setIfInBounds_toArray, List.set_cons_zero, List.set_cons_succ]
        refine wpAnyH_take (i := 9) (oi := ⟨some 13, _, _, _, _, _⟩) (v := ?vt15x9) rfl (by kernel_rfl) (by kernel_rfl) (by kernel_rfl) (fun _ _ _ h => h) (Or.inl ⟨by rfl, ?hyt15x9⟩) (by exact (by exact ⟨(cell_of_block (k := 0) HXc.out rfl).1, (cell_of_block (k := 2) HXc.out rfl).1, (cell_of_block (k := 3) HXc.out rfl).1⟩)) ?ret15x9
        case hyt15x9 => (intro ww hSw; (try dsimp only at hSw); go_simp; first | done | with_reducible rfl)
        try simp only [Act.put, List.setIfInBounds_toArray, List.set_cons_zero, List.set_cons_succ]
        refine wpAnyH_ready (rs := [11]) (by kernel_rfl) (by simp) ?_
        refine AllReadyH.cons (o := ⟨none, _, _, _, _, _⟩) rfl (fun K16 hK16 => ?_) AllReadyH.nil
        obtain ⟨⟨p0, p1, p2, p3, p4⟩, f0, f1, f2, f3, f4⟩ := cells5 HAc.out
        go_simp
        have HXn := Lib.hid (block_set_other (a := ⟨a, 4, none⟩) (u := .string ⟨#[]⟩) (block_set_other (a := ⟨a, 3, none⟩) (u := .int .i64 t2) (block_set_other (a := ⟨a, 2, none⟩) (u := .int .i64 t1) (block_set_other (a := ⟨a, 1, none⟩) (u := .int .i64 1) (block_set_other (a := ⟨a, 0, none⟩) (u := .string ⟨N1.toArray⟩) HXc.out (by first | (simp; done) | (simp; omega))) (by first | (simp; done) | (simp; omega))) (by first | (simp; done) | (simp; omega))) (by first | (simp; done) | (simp; omega))) (by first | (simp; done) | (simp; omega))); have HZn := Lib.hid (block_set_other (a := ⟨a, 4, none⟩) (u := .string ⟨#[]⟩) (block_set_other (a := ⟨a, 3, none⟩) (u := .int .i64 t2) (block_set_other (a := ⟨a, 2, none⟩) (u := .int .i64 t1) (block_set_other (a := ⟨a, 1, none⟩) (u := .int .i64 1) (block_set_other (a := ⟨a, 0, none⟩) (u := .string ⟨N1.toArray⟩) HZc.out (by first | (simp; done) | (simp; omega))) (by first | (simp; done) | (simp; omega))) (by first | (simp; done) | (simp; omega))) (by first | (simp; done) | (simp; omega))) (by first | (simp; done) | (simp; omega))); have HBn := Lib.hid (Below.setCell (Below.setCell (Below.setCell (Below.setCell (Below.setCell HBc.out (p := ⟨a, 0, none⟩) (by show w.heap.size ≤ a; omega) (.string ⟨N1.toArray⟩)) (p := ⟨a, 1, none⟩) (by show w.heap.size ≤ a; omega) (.int .i64 1)) (p := ⟨a, 2, none⟩) (by show w.heap.size ≤ a; omega) (.int .i64 t1)) (p := ⟨a, 3, none⟩) (by show w.heap.size ≤ a; omega) (.int .i64 t2)) (p := ⟨a, 4, none⟩) (by show w.heap.size ≤ a; omega) (.string ⟨#[]⟩))
        have HAn := Lib.hid (cells_eq (b := #[.string ⟨N1.toArray⟩, .int .i64 1, .int .i64 t1, .int .i64 t2, .string ⟨#[]⟩]) (block_setCell (k := 4) (v := .string ⟨#[]⟩) (block_setCell (k := 3) (v := .int .i64 t2) (block_setCell (k := 2) (v := .int .i64 t1) (block_setCell (k := 1) (v := .int .i64 1) (block_setCell (k := 0) (v := .string ⟨N1.toArray⟩) HAc.out))))) rfl)
        clear p0 p1 p2 p3 p4 f0 f1 f2 f3 f4
        refine hK16.out _ _ (⟨(cell_of_block (k := 0) HXn.out rfl).1, (cell_of_block (k := 2) HXn.out rfl).1, (cell_of_block (k := 3) HXn.out rfl).1⟩) (fun h16 => ?_)
        try simp only [Act.put, List.setIfInBounds_toArray, List.set_cons_zero, List.set_cons_succ]
        refine wpAnyH_done (by kernel_rfl) ?_ _
        go_wp2_with fail
        go_meet
        exact ⟨a, rfl, hal, HAn.out, HXn.out, HZn.out, HBn.out⟩
    case mo2 =>
      refine AllReadyH.cons (o := ⟨some 3, _, _, _, _, _⟩) rfl (fun K17 hK17 => ?_) AllReadyH.nil
      go_simp
      have HAc := Lib.hid (alloc_new wd (.cells #[.string ⟨#[]⟩, .int .i64 0, .int .i64 0, .int .i64 0, .string ⟨#[]⟩] 92))
      have hb := (Below.refl wd.heap.size wd).alloc (Nat.le_refl _) (.cells #[.string ⟨#[]⟩, .int .i64 0, .int .i64 0, .int .i64 0, .string ⟨#[]⟩] 92)
      have hal : w.heap.size + 1 < wd.heap.size := by omega
      have HXc' := Lib.hid (bblock hb HXc.out); clear HXc; have HXc := HXc'; clear HXc'
      have HZc' := Lib.hid (bblock hb HZc.out); clear HZc; have HZc := HZc'; clear HZc'
      have HBc' := Lib.hid (below_call HBc.out hb); clear HBc; have HBc := HBc'; clear HBc'; have hsc' := Nat.le_trans hsc hb.size; clear hsc; have hsc := hsc'; clear hsc'
      clear hb
      obtain ⟨a, hae⟩ : ∃ a, wd.heap.size = a := ⟨_, rfl⟩
      rw [hae] at HAc hal ⊢
      generalize wd.alloc (.cells #[.string ⟨#[]⟩, .int .i64 0, .int .i64 0, .int .i64 0, .string ⟨#[]⟩] 92) = w17a at *
      clear hae
      refine hK17.out _ _ (⟨(cell_of_block (k := 0) HXc.out rfl).1, (cell_of_block (k := 2) HXc.out rfl).1, (cell_of_block (k := 3) HXc.out rfl).1⟩) (fun h17 => ?_)
      try simp only [Act.put, List.setIfInBounds_toArray, List.set_cons_zero, List.set_cons_succ]
      refine wpAnyH_ready (rs := [2]) (by kernel_rfl) (by simp) ?_
      refine AllReadyH.cons (o := ⟨some 6, _, _, _, _, _⟩) rfl (fun K18 hK18 => ?_) AllReadyH.nil
      go_simp
      refine (HN.out _).mono ?_
      rintro e w18 ⟨rfl, hb⟩
      dsimp only
      have HXc' := Lib.hid (bblock hb HXc.out); clear HXc; have HXc := HXc'; clear HXc'
      have HZc' := Lib.hid (bblock hb HZc.out); clear HZc; have HZc := HZc'; clear HZc'
      have HAc' := Lib.hid (bblock hb HAc.out); clear HAc; have HAc := HAc'; clear HAc'
      have HBc' := Lib.hid (below_call HBc.out hb); clear HBc; have HBc := HBc'; clear HBc'; have hsc' := Nat.le_trans hsc hb.size; clear hsc; have hsc := hsc'; clear hsc'
      clear hb
      refine hK18.out _ _ (⟨(cell_of_block (k := 0) HXc.out rfl).1, (cell_of_block (k := 2) HXc.out rfl).1, (cell_of_block (k := 3) HXc.out rfl).1⟩) (fun h18 => ?_)
      try simp only [Act.put, List.setIfInBounds_toArray, List.set_cons_zero, List.set_cons_succ]
      refine wpAnyH_ready (rs := [5]) (by kernel_rfl) (by simp) ?_
      refine AllReadyH.cons (o := ⟨some 9, _, _, _, _, _⟩) rfl (fun K19 hK19 => ?_) AllReadyH.nil
      go_simp
      refine (HT.out _).mono ?_
      rintro e w' ⟨rfl, rfl⟩
      dsimp only
      refine hK19.out _ _ (⟨(cell_of_block (k := 0) HXc.out rfl).1, (cell_of_block (k := 2) HXc.out rfl).1, (cell_of_block (k := 3) HXc.out rfl).1⟩) (fun h19 => ?_)
      try simp only [Act.put, List.setIfInBounds_toArray, List.set_cons_zero, List.set_cons_succ]
      refine wpAnyH_ready (rs := [8]) (by kernel_rfl) (by simp) ?_
      refine AllReadyH.cons (o := ⟨some 12, _, _, _, _, _⟩) rfl (fun K20 hK20 => ?_) AllReadyH.nil
      go_simp
      refine (HA.out _).mono ?_
      rintro e w' ⟨rfl, rfl⟩
      dsimp only
      refine hK20.out _ _ (⟨(cell_of_block (k := 0) HXc.out rfl).1, (cell_of_block (k := 2) HXc.out rfl).1, (cell_of_block (k := 3) HXc.out rfl).1⟩) (fun h20 => ?_)
      try simp only [Act.put, List.setIfInBounds_toArray, List.set_cons_zero, List.set_cons_succ]
      refine wpAnyH_take (i := 9) (oi := ⟨some 13, _, _, _, _, _⟩) (v := ?vt21x9) rfl (by kernel_rfl) (by kernel_rfl) (by kernel_rfl) (fun _ _ _ h => h) (Or.inl ⟨by rfl, ?hyt21x9⟩) (by exact (by exact ⟨(cell_of_block (k := 0) HXc.out rfl).1, (cell_of_block (k := 2) HXc.out rfl).1, (cell_of_block (k := 3) HXc.out rfl).1⟩)) ?ret21x9
      case hyt21x9 => (intro ww hSw; (try dsimp only at hSw); go_simp; first | done | with_reducible rfl)
      try simp only [Act.put, List.setIfInBounds_toArray, List.set_cons_zero, List.set_cons_succ]
      refine wpAnyH_ready (rs := [11]) (by kernel_rfl) (by simp) ?_
      refine AllReadyH.cons (o := ⟨none, _, _, _, _, _⟩) rfl (fun K22 hK22 => ?_) AllReadyH.nil
      obtain ⟨⟨p0, p1, p2, p3, p4⟩, f0, f1, f2, f3, f4⟩ := cells5 HAc.out
      go_simp
      have HXn := Lib.hid (block_set_other (a := ⟨a, 4, none⟩) (u := .string ⟨#[]⟩) (block_set_other (a := ⟨a, 3, none⟩) (u := .int .i64 t2) (block_set_other (a := ⟨a, 2, none⟩) (u := .int .i64 t1) (block_set_other (a := ⟨a, 1, none⟩) (u := .int .i64 1) (block_set_other (a := ⟨a, 0, none⟩) (u := .string ⟨N1.toArray⟩) HXc.out (by first | (simp; done) | (simp; omega))) (by first | (simp; done) | (simp; omega))) (by first | (simp; done) | (simp; omega))) (by first | (simp; done) | (simp; omega))) (by first | (simp; done) | (simp; omega))); have HZn := Lib.hid (block_set_other (a := ⟨a, 4, none⟩) (u := .string ⟨#[]⟩) (block_set_other (a := ⟨a, 3, none⟩) (u := .int .i64 t2) (block_set_other (a := ⟨a, 2, none⟩) (u := .int .i64 t1) (block_set_other (a := ⟨a, 1, none⟩) (u := .int .i64 1) (block_set_other (a := ⟨a, 0, none⟩) (u := .string ⟨N1.toArray⟩) HZc.out (by first | (simp; done) | (simp; omega))) (by first | (simp; done) | (simp; omega))) (by first | (simp; done) | (simp; omega))) (by first | (simp; done) | (simp; omega))) (by first | (simp; done) | (simp; omega))); have HBn := Lib.hid (Below.setCell (Below.setCell (Below.setCell (Below.setCell (Below.setCell HBc.out (p := ⟨a, 0, none⟩) (by show w.heap.size ≤ a; omega) (.string ⟨N1.toArray⟩)) (p := ⟨a, 1, none⟩) (by show w.heap.size ≤ a; omega) (.int .i64 1)) (p := ⟨a, 2, none⟩) (by show w.heap.size ≤ a; omega) (.int .i64 t1)) (p := ⟨a, 3, none⟩) (by show w.heap.size ≤ a; omega) (.int .i64 t2)) (p := ⟨a, 4, none⟩) (by show w.heap.size ≤ a; omega) (.string ⟨#[]⟩))
      have HAn := Lib.hid (cells_eq (b := #[.string ⟨N1.toArray⟩, .int .i64 1, .int .i64 t1, .int .i64 t2, .string ⟨#[]⟩]) (block_setCell (k := 4) (v := .string ⟨#[]⟩) (block_setCell (k := 3) (v := .int .i64 t2) (block_setCell (k := 2) (v := .int .i64 t1) (block_setCell (k := 1) (v := .int .i64 1) (block_setCell (k := 0) (v := .string ⟨N1.toArray⟩) HAc.out))))) rfl)
      clear p0 p1 p2 p3 p4 f0 f1 f2 f3 f4
      refine hK22.out _ _ (⟨(cell_of_block (k := 0) HXn.out rfl).1, (cell_of_block (k := 2) HXn.out rfl).1, (cell_of_block (k := 3) HXn.out rfl).1⟩) (fun h22 => ?_)
      try simp only [Act.put, List.setIfInBounds_toArray, List.set_cons_zero, List.set_cons_succ]
      refine wpAnyH_done (by kernel_rfl) ?_ _
      go_wp2_with fail
      go_meet
      exact ⟨a, rfl, hal, HAn.out, HXn.out, HZn.out, HBn.out⟩
  case rest =>
    clear HX HZ HB hsz
    obtain ⟨a, rfl, hal, ha, hx, hz, HB⟩ := hcut
    have HA5 := Lib.hid ha; have HX := Lib.hid hx; have HZ := Lib.hid hz; clear ha hx hz
    obtain ⟨⟨p0, p1, p2, p3, p4⟩, f0, f1, f2, f3, f4⟩ := cells5 HA5.out
    obtain ⟨⟨x0, x1, x2, x3⟩, -⟩ := cells4 HX.out
    cases hal2 : x.alias with
    | false =>
      rw [hal2] at x1 HE
      obtain ⟨⟨q0, q1, q2, q3, q4⟩, g0, g1, g2, g3, g4⟩ := cells5 HZ.out
      go_wp2_with fail
      all_goals
        have HY := cells_eq (b := #[.string ⟨N1.toArray⟩, .int .i64 1, .int .i64 t1, .int .i64 t2, .string ⟨#[]⟩]) (block_setCell (k := 4) (v := .string ⟨#[]⟩) (block_setCell (k := 3) (v := .int .i64 t2) (block_setCell (k := 2) (v := .int .i64 t1) (block_setCell (k := 1) (v := .int .i64 1) (block_setCell (k := 0) (v := .string ⟨N1.toArray⟩) HZ.out))))) rfl
        refine bodyPost_ret (v := .agg #[.string ⟨N1.toArray⟩, .int .i64 1, .int .i64 t1, .int .i64 t2, .string ⟨#[]⟩]) (res_cell1 Tryz.results41 (by exact HY) rfl Tryz.underlying92 rfl infoRec) rfl ⟨rfl, (Below.setCell (Below.setCell (Below.setCell (Below.setCell (Below.setCell HB (p := ⟨w.heap.size + 1, 0, none⟩) (by simp) (.string ⟨N1.toArray⟩)) (p := ⟨w.heap.size + 1, 1, none⟩) (by simp) (.int .i64 1)) (p := ⟨w.heap.size + 1, 2, none⟩) (by simp) (.int .i64 t1)) (p := ⟨w.heap.size + 1, 3, none⟩) (by simp) (.int .i64 t2)) (p := ⟨w.heap.size + 1, 4, none⟩) (by simp) (.string ⟨#[]⟩))⟩
    | true =>
      rw [hal2] at x1 HE
      go_wp2_with fail
      refine (HN2.out _).mono ?_
      rintro e w9 ⟨rfl, hb⟩
      have HA9 := Lib.hid (bblock hb (cells_eq (b := #[.string ⟨N1.toArray⟩, .int .i64 2, .int .i64 t1, .int .i64 0, .string ⟨#[]⟩]) (block_setCell (k := 3) (v := .int .i64 0) (block_setCell (k := 1) (v := .int .i64 2) HA5.out)) rfl))
      have HZ9 := Lib.hid (bblock hb (block_set_other (a := ⟨a, 3, none⟩) (u := .int .i64 0) (block_set_other (a := ⟨a, 1, none⟩) (u := .int .i64 2) HZ.out (by first | (simp; done) | (simp; omega))) (by first | (simp; done) | (simp; omega))))
      have HB9 := below_call (Below.setCell (Below.setCell HB (p := ⟨a, 1, none⟩) (by show w.heap.size ≤ a; omega) (.int .i64 2)) (p := ⟨a, 3, none⟩) (by show w.heap.size ≤ a; omega) (.int .i64 0)) hb
      clear p0 p1 p2 p3 p4 f0 f1 f2 f3 f4 x0 x1 x2 x3 hb
      obtain ⟨⟨p0, p1, p2, p3, p4⟩, f0, f1, f2, f3, f4⟩ := cells5 HA9.out
      obtain ⟨⟨q0, q1, q2, q3, q4⟩, g0, g1, g2, g3, g4⟩ := cells5 HZ9.out
      go_wp2_with fail
      all_goals
        have HY := cells_eq (b := #[.string ⟨N1.toArray⟩, .int .i64 2, .int .i64 t1, .int .i64 0, .string ⟨N2.toArray⟩]) (block_setCell (k := 4) (v := .string ⟨N2.toArray⟩) (block_setCell (k := 3) (v := .int .i64 0) (block_setCell (k := 2) (v := .int .i64 t1) (block_setCell (k := 1) (v := .int .i64 2) (block_setCell (k := 0) (v := .string ⟨N1.toArray⟩) (block_set_other (a := ⟨a, 4, none⟩) (u := .string ⟨N2.toArray⟩) HZ9.out (by first | (simp; done) | (simp; omega)))))))) rfl
        refine bodyPost_ret (v := .agg #[.string ⟨N1.toArray⟩, .int .i64 2, .int .i64 t1, .int .i64 0, .string ⟨N2.toArray⟩]) (res_cell1 Tryz.results41 (by exact HY) rfl Tryz.underlying92 rfl infoRec) rfl ⟨rfl, (Below.setCell (Below.setCell (Below.setCell (Below.setCell (Below.setCell (Below.setCell HB9 (p := ⟨a, 4, none⟩) (by show w.heap.size ≤ a; omega) (.string ⟨N2.toArray⟩)) (p := ⟨w.heap.size + 1, 0, none⟩) (by simp) (.string ⟨N1.toArray⟩)) (p := ⟨w.heap.size + 1, 1, none⟩) (by simp) (.int .i64 2)) (p := ⟨w.heap.size + 1, 2, none⟩) (by simp) (.int .i64 t1)) (p := ⟨w.heap.size + 1, 3, none⟩) (by simp) (.int .i64 0)) (p := ⟨w.heap.size + 1, 4, none⟩) (by simp) (.string ⟨N2.toArray⟩))⟩
end Go.Proofs.YtmgjcjacoegocaaGreatDoor.Dn
