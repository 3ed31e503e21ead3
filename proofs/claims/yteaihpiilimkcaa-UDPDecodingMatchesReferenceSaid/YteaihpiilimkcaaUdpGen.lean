/-
  Contracts of the helpers of the laws of chapter 10.
-/
import Derived.Test.YteaihpiilimkcaaPayload
import Derived.Test.YteaihpiilimkcaaUdpPlain
namespace Go.Proofs.Yteaihpiilimkcaa.Udp
open Go.RowKit Go.Proofs.Yteaihpiilimkcaa.Wire Go.Proofs.Yteaihpiilimkcaa.Gen

set_option maxHeartbeats 400000 in
theorem pick_any (c n : Int) (w : World) (h1 : -9223372036854775808 ≤ c) (h2 : c ≤ 9223372036854775807) (h : 1 ≤ n) (h' : n ≤ 4294967295) :
    Calls Try.prog 10 #[.int .i64 c, .int .i64 n] w fun e w' => e = .returned (.int .i64 (pick c n)) ∧ w = w' := by
  have hne : (n == 0) = false := by simp; omega
  by_cases hc : c < 0
  · go_enter Try.func10, Try.ntmps10
    go_wp2
    go_ret
    exact ⟨ret_int (by unfold pick; rw [if_pos hc, ← Int.neg_tmod, Int.tmod_eq_emod_of_nonneg (by omega)]), rfl⟩
  · go_enter Try.func10, Try.ntmps10
    go_wp2
    go_ret
    exact ⟨ret_int (by unfold pick; rw [if_neg (by omega)]), rfl⟩

def addrOf (n : Int) : Int := 1 + pick n 4294967295
theorem addrOf_bd (n : Int) : 1 ≤ addrOf n ∧ addrOf n ≤ 4294967295 := by have := pick_lt n 4294967295 (by omega); unfold addrOf; omega
set_option maxHeartbeats 400000 in
theorem addressFrom_any (c : Int) (w : World) (h1 : -9223372036854775808 ≤ c) (h2 : c ≤ 9223372036854775807) :
    Calls Try.prog 11 #[.int .i64 c] w fun e w' => e = .returned (.int .i64 (addrOf c)) ∧ w = w' := by
  have hb := pick_lt c 4294967295 (by omega)
  go_enter Try.func11, Try.ntmps11
  go_wp2_with (go_at_call 10; refine (pick_any _ _ _ h1 h2 (by omega) (by omega)).mono ?_; rintro e w' ⟨rfl, rfl⟩)
  go_ret
  exact ⟨rfl, rfl⟩

/-- the ports and the payload of the datagram that DatagramFrom makes -/
def portOf (n : Int) : Int := 1 + pick n 65535
theorem portOf_bd (n : Int) : 1 ≤ portOf n ∧ portOf n ≤ 65535 := by have := pick_lt n 65535 (by omega); unfold portOf; omega
def dataOf (s : ByteArray) (long : Int) : List UInt8 := payload s (pick long 201).toNat
theorem dataOf_length (s : ByteArray) (long : Int) : (dataOf s long).length ≤ 200 := by
  have := pick_lt long 201 (by omega)
  rw [dataOf, payload_length]; omega

set_option maxRecDepth 100000 in
set_option maxHeartbeats 2000000 in
theorem datagramFrom_any (r0 r1 r2 r3 r4 : Int) (s : ByteArray) (w : World) (h2 : -9223372036854775808 ≤ r2 ∧ r2 ≤ 9223372036854775807) (h3 : -9223372036854775808 ≤ r3 ∧ r3 ≤ 9223372036854775807) (h4 : -9223372036854775808 ≤ r4 ∧ r4 ≤ 9223372036854775807) (hs : s.size ≤ 9223372036854775807) :
    Calls Try.prog 8 #[.agg #[.int .i64 r0, .int .i64 r1, .int .i64 r2, .int .i64 r3, .int .i64 r4, .string s]] w fun e w' => e = .returned (.agg #[.int .i64 (portOf r2), .int .i64 (portOf r3), .string ⟨(dataOf s r4).toArray⟩]) ∧ Below w.heap.size w w' := by
  have hb2 := pick_lt r2 65535 (by omega)
  have hb3 := pick_lt r3 65535 (by omega)
  have hb4 := pick_lt r4 201 (by omega)
  have Hd : Hid (dataOf s r4 = payload s (pick r4 201).toNat) := Lib.hid rfl
  go_enter Try.func8, Try.ntmps8
  go_wp2_with fail
  have hA := heap2_0 w (.cells #[.int .i64 r0, .int .i64 r1, .int .i64 r2, .int .i64 r3, .int .i64 r4, .string s] 23) (.cells #[.int .i64 0, .int .i64 0, .string ⟨#[]⟩] 26)
  have hA1 := heap2_1 w (.cells #[.int .i64 r0, .int .i64 r1, .int .i64 r2, .int .i64 r3, .int .i64 r4, .string s] 23) (.cells #[.int .i64 0, .int .i64 0, .string ⟨#[]⟩] 26)
  have hBW : Below w.heap.size w ((w.alloc (.cells #[.int .i64 r0, .int .i64 r1, .int .i64 r2, .int .i64 r3, .int .i64 r4, .string s] 23)).alloc (.cells #[.int .i64 0, .int .i64 0, .string ⟨#[]⟩] 26)) := below_alloc (below_alloc (Below.refl _ _))
  obtain ⟨W, hW⟩ : ∃ W, (w.alloc (.cells #[.int .i64 r0, .int .i64 r1, .int .i64 r2, .int .i64 r3, .int .i64 r4, .string s] 23)).alloc (.cells #[.int .i64 0, .int .i64 0, .string ⟨#[]⟩] 26) = W := ⟨_, rfl⟩
  rw [hW] at hA hA1 hBW ⊢
  clear hW
  have c2 := (cell_of_block (k := 2) hA rfl).1
  have c3 := (cell_of_block (k := 3) hA rfl).1
  have c4 := (cell_of_block (k := 4) hA rfl).1
  have c5 := (cell_of_block (k := 5) hA rfl).1
  obtain ⟨⟨p0, p1, p2⟩, f0, f1, f2⟩ := cells3 hA1
  have v0 := valAt_of p0
  have v1 := valAt_of p1
  have v2 := valAt_of p2
  have HA1 := Lib.hid hA1
  clear hA hA1 p0 p1 p2
  have hw2 : IntKind.i64.wrap (1 + pick r2 65535) = 1 + pick r2 65535 := IntWalk.i64_in _ (by omega)
  have hw3 : IntKind.i64.wrap (1 + pick r3 65535) = 1 + pick r3 65535 := IntWalk.i64_in _ (by omega)
  go_region_held3 (fun w' => w'.cell? ⟨w.heap.size, 2, none⟩ = some (.int .i64 r2) ∧ w'.cell? ⟨w.heap.size, 3, none⟩ = some (.int .i64 r3) ∧ w'.cell? ⟨w.heap.size, 4, none⟩ = some (.int .i64 r4) ∧ w'.cell? ⟨w.heap.size, 5, none⟩ = some (.string s) ∧ w'.cell? ⟨w.heap.size + 1, 0, none⟩ = some (valAt w' ⟨w.heap.size + 1, 0, none⟩) ∧ w'.cell? ⟨w.heap.size + 1, 1, none⟩ = some (valAt w' ⟨w.heap.size + 1, 1, none⟩) ∧ w'.cell? ⟨w.heap.size + 1, 2, none⟩ = some (valAt w' ⟨w.heap.size + 1, 2, none⟩) ∧ w'.frozen? ⟨w.heap.size + 1, 0, none⟩ = false ∧ w'.frozen? ⟨w.heap.size + 1, 1, none⟩ = false ∧ w'.frozen? ⟨w.heap.size + 1, 2, none⟩ = false ∧ Below w.heap.size w w') (first | exact ⟨c2, c3, c4, c5, v0, v1, v2, f0, f1, f2, hBW.drew⟩ | (go_split_ands; exact ⟨by assumption, by assumption, by assumption, by assumption, by assumption, by assumption, by assumption, by assumption, by assumption, by assumption, by assumption⟩) | (go_split_ands; exact ⟨bcell (by assumption) (by assumption), bcell (by assumption) (by assumption), bcell (by assumption) (by assumption), bcell (by assumption) (by assumption), bval (by assumption) (by assumption), bval (by assumption) (by assumption), bval (by assumption) (by assumption), bfrozen (by assumption) (by assumption) (by assumption), bfrozen (by assumption) (by assumption) (by assumption), bfrozen (by assumption) (by assumption) (by assumption), below_call (by assumption) (by assumption)⟩) | (go_split_ands; exact ⟨cell_set_other (cell_set_other (cell_set_other (by assumption) (by simp)) (by simp)) (by simp), cell_set_other (cell_set_other (cell_set_other (by assumption) (by simp)) (by simp)) (by simp), cell_set_other (cell_set_other (cell_set_other (by assumption) (by simp)) (by simp)) (by simp), cell_set_other (cell_set_other (cell_set_other (by assumption) (by simp)) (by simp)) (by simp), val_set (val_set (val_set (by assumption))), val_set (val_set (val_set (by assumption))), val_set (val_set (val_set (by assumption))), frozen_set (frozen_set (frozen_set (by assumption))), frozen_set (frozen_set (frozen_set (by assumption))), frozen_set (frozen_set (frozen_set (by assumption))), Below.setCell (Below.setCell (Below.setCell (by assumption) (by simp) _) (by simp) _) (by simp) _⟩))
    (first | (go_at_call 10; refine (pick_any _ _ _ (by omega) (by omega) (by omega) (by omega)).mono ?_; rintro e w5 ⟨rfl, rfl⟩) | (go_at_call 9; refine (payload_any _ _ _ (by omega) (by omega) hs).mono ?_; rintro e w6 ⟨rfl, hb6⟩))
  clear hw2 hw3 v0 v1 v2 c2 c3 c4 c5 f0 f1 f2
  go_wp2_with fail
  obtain ⟨⟨p0, p1, p2⟩, _⟩ := cells3 (bblock hb6 HA1.out)
  obtain ⟨e0, e1, e2⟩ := set3 (v0 := .int .i64 (1 + pick r2 65535)) (v1 := .int .i64 (1 + pick r3 65535)) (v2 := .string ⟨(payload s (pick r4 201).toNat).toArray⟩) p0 p1 p2
  refine bodyPost_ret (v := .agg #[.int .i64 (1 + pick r2 65535), .int .i64 (1 + pick r3 65535), .string ⟨(payload s (pick r4 201).toNat).toArray⟩]) ?_ rfl ⟨rfl, ?_⟩
  · simp [results, Try.results8, go_sem, e0, e1, e2]
  · have hB : Below w.heap.size w w6 := below_call hBW.drew hb6
    exact ((hB.setCell (p := ⟨w.heap.size + 1, 0, none⟩) (by simp) _).setCell (p := ⟨w.heap.size + 1, 1, none⟩) (by simp) _).setCell (p := ⟨w.heap.size + 1, 2, none⟩) (by simp) _

end Go.Proofs.Yteaihpiilimkcaa.Udp
