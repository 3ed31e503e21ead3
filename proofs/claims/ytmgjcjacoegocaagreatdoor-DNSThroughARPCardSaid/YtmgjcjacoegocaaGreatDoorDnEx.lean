/-
  The examples of chapter 19 hold.
-/
import Derived.Test.YtmgjcjacoegocaaGreatDoorDnDec
import Derived.Test.YtmgjcjacoegocaaGreatDoorDnSame
import Derived.Test.YtmgjcjacoegocaaGreatDoorDnRSame
namespace Go.Proofs.YtmgjcjacoegocaaGreatDoor.Dn
open Go.RowKit Go.Proofs.YtmgjcjacoegocaaGreatDoor.Wire Go.Proofs.YtmgjcjacoegocaaGreatDoor.Rw

def msA : Msg := ⟨1, false, 0, [97, 46, 98, 99], 1, []⟩
def msB : Msg := ⟨258, true, 0, [97], 2, [⟨[97], 2, 9, 0, [98]⟩, ⟨[98], 1, 10, 5, []⟩]⟩
def msZ : Msg := ⟨0, false, 0, [], 0, []⟩
theorem msA_f : msA.fits := ⟨by decide, by decide, fun r h => by cases h⟩
theorem msZ_f : msZ.fits := ⟨by decide, by decide, fun r h => by cases h⟩
theorem msB_f : msB.fits := ⟨by decide, by decide, fun r h => by
  unfold msB at h; simp at h
  rcases h with rfl | rfl <;> exact ⟨by decide, by decide⟩⟩
theorem msA_ok : msgB msA = true := by decide +kernel
theorem msB_ok : msgB msB = true := by decide +kernel
theorem msZ_no : msgB msZ = false := by decide +kernel
theorem msA_enc : enc msA = [0, 1, 0, 0, 1, 1, 97, 2, 98, 99, 0, 0] := by decide +kernel
theorem msB_enc : enc msB = [1, 2, 1, 0, 2, 1, 97, 0, 2, 1, 97, 0, 2, 0, 9, 1, 98, 0, 1, 98, 0, 1, 0, 10, 0, 0, 0, 5] := by decide +kernel
theorem msA_dec : decD (⟨#[0, 1, 0, 0, 1, 1, 97, 2, 98, 99, 0, 0]⟩ : ByteArray).data.toList = some msA := by decide +kernel
theorem msX_dec : decD (⟨#[0, 1, 0, 0, 1, 1, 97, 2, 98, 99, 0, 0, 0]⟩ : ByteArray).data.toList = none := by decide +kernel
theorem msAB : ¬ msB = msA := by decide
theorem RRow.alloc {W : World} {lo : Nat} {A : Option Addr} {c : Nat} {l : List Rec} (h : RRow W lo A c l) (o : Obj) : RRow (W.alloc o) lo A c l := h.below ((Below.refl W.heap.size W).alloc (Nat.le_refl _) o)
theorem row_blk {W : World} {g : Nat} (h : W.heap[g]? = some (.cells #[.string ⟨#[97]⟩, .int .i64 2, .int .i64 9, .int .i64 0, .string ⟨#[98]⟩, .string ⟨#[98]⟩, .int .i64 1, .int .i64 10, .int .i64 5, .string ⟨#[]⟩] 92 (0, 0))) : RRow W 0 (some ⟨g, 0, none⟩) 2 msB.recs := SRow.new (l := msB.recs) (Nat.zero_le _) rcells_len h rfl (by decide)
set_option maxRecDepth 100000 in
set_option maxHeartbeats 4000000 in
theorem examples_any (w : World) : Calls Tryz.prog 5 #[] w fun e w' => e = .returned (.bool true) ∧ Below w.heap.size w w' := by
  have HEa : Hid (∀ W : World, Calls Tryz.prog 7 #[.agg #[.int .i64 1, .bool false, .int .i64 0, .string ⟨#[97, 46, 98, 99]⟩, .int .i64 1, .slice none 0 0]] W fun e w' => e = .returned (.tuple #[.string ⟨#[0, 1, 0, 0, 1, 1, 97, 2, 98, 99, 0, 0]⟩, .int .i64 0]) ∧ Below W.heap.size W w') := Lib.hid (fun W => by have h := encode_ok msA none 0 0 W msA_f (SRow.nil _ _ _ _ _) msA_ok; rw [msA_enc] at h; exact h)
  have HDa : Hid (∀ W : World, Calls Tryz.prog 18 #[.string ⟨#[0, 1, 0, 0, 1, 1, 97, 2, 98, 99, 0, 0]⟩] W fun e w' => (∃ (A : Option Addr) (c : Nat), e = .returned (.tuple #[.agg #[.int .i64 1, .bool false, .int .i64 0, .string ⟨#[97, 46, 98, 99]⟩, .int .i64 1, .slice A 0 c], .int .i64 0]) ∧ RRow w' W.heap.size A c []) ∧ Below W.heap.size W w') := Lib.hid (fun W => (decode_any _ W (by decide)).mono fun e w' h => by obtain ⟨hb, ⟨h1, -⟩ | ⟨d, A, c, h1, h2, -, h4⟩⟩ := h; exact absurd (msA_dec ▸ h1) (by simp); obtain rfl := Option.some.inj (msA_dec.symm.trans h1); exact ⟨⟨A, c, h2, h4⟩, hb⟩)
  have HEb : Hid (∀ (W : World) (g : Nat), RRow W 0 (some ⟨g, 0, none⟩) 2 msB.recs → Calls Tryz.prog 7 #[.agg #[.int .i64 258, .bool true, .int .i64 0, .string ⟨#[97]⟩, .int .i64 2, .slice (some ⟨g, 0, none⟩) 2 2]] W fun e w' => e = .returned (.tuple #[.string ⟨#[1, 2, 1, 0, 2, 1, 97, 0, 2, 1, 97, 0, 2, 0, 9, 1, 98, 0, 1, 98, 0, 1, 0, 10, 0, 0, 0, 5]⟩, .int .i64 0]) ∧ Below W.heap.size W w') := Lib.hid (fun W g hg => by have h := encode_ok msB (some ⟨g, 0, none⟩) 2 0 W msB_f hg msB_ok; rw [msB_enc] at h; exact h)
  have HDx : Hid (∀ (t : ByteArray) (W : World), t = ⟨#[0, 1, 0, 0, 1, 1, 97, 2, 98, 99, 0, 0, 0]⟩ → Calls Tryz.prog 18 #[.string t] W fun e w' => e = .returned (.tuple #[.agg #[.int .i64 0, .bool false, .int .i64 0, .string ⟨#[]⟩, .int .i64 0, .slice none 0 0], .int .i64 190]) ∧ Below W.heap.size W w') := Lib.hid (fun t W ht => by subst ht; exact (decode_any _ W (by decide)).mono fun e w' h => by obtain ⟨hb, ⟨-, h2⟩ | ⟨d, A, c, h1, -⟩⟩ := h; exact ⟨h2, hb⟩; exact absurd (msX_dec.symm.trans h1) (by simp))
  have HEz : Hid (∀ W : World, Calls Tryz.prog 7 #[.agg #[.int .i64 0, .bool false, .int .i64 0, .string ⟨#[]⟩, .int .i64 0, .slice none 0 0]] W fun e w' => e = .returned (.tuple #[.string ⟨#[]⟩, .int .i64 190]) ∧ Below W.heap.size W w') := Lib.hid (fun W => encode_no msZ none 0 0 W msZ_f (SRow.nil _ _ _ _ _) msZ_no)
  have HRS : Hid (∀ (W : World) (A : Option Addr) (c lo : Nat), RRow W lo A c [] → Calls Tryz.prog 19 #[.agg #[.int .i64 1, .bool false, .int .i64 0, .string ⟨#[97, 46, 98, 99]⟩, .int .i64 1, .slice A 0 c], .agg #[.int .i64 1, .bool false, .int .i64 0, .string ⟨#[97, 46, 98, 99]⟩, .int .i64 1, .slice none 0 0]] W fun e w' => e = .returned (.bool true) ∧ Below W.heap.size W w') := Lib.hid (fun W A c lo hr => rsame_any msA msA A none c 0 lo 0 W (by decide) (by decide) hr (SRow.nil _ _ _ _ _))
  have HN1 : Hid (∀ W : World, Calls Tryz.prog 27 #[.string ⟨#[120, 45, 49, 46, 98]⟩] W fun e w' => e = .returned (.bool true) ∧ Below W.heap.size W w') := Lib.hid (fun W => by have h := vname_any ⟨#[120, 45, 49, 46, 98]⟩ W (by decide); rw [show nameB (⟨#[120, 45, 49, 46, 98]⟩ : ByteArray).data.toList = true from by decide +kernel] at h; exact h)
  have HN2 : Hid (∀ W : World, Calls Tryz.prog 27 #[.string ⟨#[120, 45, 46, 98]⟩] W fun e w' => e = .returned (.bool false) ∧ Below W.heap.size W w') := Lib.hid (fun W => by have h := vname_any ⟨#[120, 45, 46, 98]⟩ W (by decide); rw [show nameB (⟨#[120, 45, 46, 98]⟩ : ByteArray).data.toList = false from by decide +kernel] at h; exact h)
  have HN3 : Hid (∀ W : World, Calls Tryz.prog 27 #[.string ⟨#[]⟩] W fun e w' => e = .returned (.bool false) ∧ Below W.heap.size W w') := Lib.hid (fun W => by have h := vname_any ⟨#[]⟩ W (by decide); rw [show nameB (⟨#[]⟩ : ByteArray).data.toList = false from by decide +kernel] at h; exact h)
  have HN4 : Hid (∀ W : World, Calls Tryz.prog 27 #[.string ⟨#[97, 46, 46, 98]⟩] W fun e w' => e = .returned (.bool false) ∧ Below W.heap.size W w') := Lib.hid (fun W => by have h := vname_any ⟨#[97, 46, 46, 98]⟩ W (by decide); rw [show nameB (⟨#[97, 46, 46, 98]⟩ : ByteArray).data.toList = false from by decide +kernel] at h; exact h)
  have HN5 : Hid (∀ W : World, Calls Tryz.prog 27 #[.string ⟨#[65]⟩] W fun e w' => e = .returned (.bool false) ∧ Below W.heap.size W w') := Lib.hid (fun W => by have h := vname_any ⟨#[65]⟩ W (by decide); rw [show nameB (⟨#[65]⟩ : ByteArray).data.toList = false from by decide +kernel] at h; exact h)
  have HVb : Hid (∀ (W : World) (g : Nat), RRow W 0 (some ⟨g, 0, none⟩) 2 msB.recs → Calls Tryz.prog 28 #[.agg #[.int .i64 258, .bool true, .int .i64 0, .string ⟨#[97]⟩, .int .i64 2, .slice (some ⟨g, 0, none⟩) 2 2]] W fun e w' => e = .returned (.bool true) ∧ Below W.heap.size W w') := Lib.hid (fun W g hg => by have h := valid_any msB (some ⟨g, 0, none⟩) 2 0 W msB_f hg; rw [msB_ok] at h; exact h)
  have HVz : Hid (∀ W : World, Calls Tryz.prog 28 #[.agg #[.int .i64 0, .bool false, .int .i64 0, .string ⟨#[]⟩, .int .i64 0, .slice none 0 0]] W fun e w' => e = .returned (.bool false) ∧ Below W.heap.size W w') := Lib.hid (fun W => by have h := valid_any msZ none 0 0 W msZ_f (SRow.nil _ _ _ _ _); rw [msZ_no] at h; exact h)
  have HSb : Hid (∀ (W : World) (g : Nat), RRow W 0 (some ⟨g, 0, none⟩) 2 msB.recs → Calls Tryz.prog 29 #[.agg #[.int .i64 258, .bool true, .int .i64 0, .string ⟨#[97]⟩, .int .i64 2, .slice (some ⟨g, 0, none⟩) 2 2], .agg #[.int .i64 258, .bool true, .int .i64 0, .string ⟨#[97]⟩, .int .i64 2, .slice (some ⟨g, 0, none⟩) 2 2]] W fun e w' => e = .returned (.bool true) ∧ Below W.heap.size W w') := Lib.hid (fun W g hg => by have h := same_any msB msB (some ⟨g, 0, none⟩) (some ⟨g, 0, none⟩) 2 2 0 0 W (by decide) (by decide) hg hg; rw [decide_eq_true rfl] at h; exact h)
  have HSab : Hid (∀ (W : World) (g : Nat), RRow W 0 (some ⟨g, 0, none⟩) 2 msB.recs → Calls Tryz.prog 29 #[.agg #[.int .i64 258, .bool true, .int .i64 0, .string ⟨#[97]⟩, .int .i64 2, .slice (some ⟨g, 0, none⟩) 2 2], .agg #[.int .i64 1, .bool false, .int .i64 0, .string ⟨#[97, 46, 98, 99]⟩, .int .i64 1, .slice none 0 0]] W fun e w' => e = .returned (.bool false) ∧ Below W.heap.size W w') := Lib.hid (fun W g hg => by have h := same_any msB msA (some ⟨g, 0, none⟩) none 2 0 0 0 W (by decide) (by decide) hg (SRow.nil _ _ _ _ _); rw [decide_eq_false msAB] at h; exact h)
  go_enter Tryz.func5, Tryz.ntmps5
  have HB := Below.refl w.heap.size w
  have Ha := Lib.hid (alloc_new' w (.cells #[.int .i64 1, .bool false, .int .i64 0, .string ⟨#[97, 46, 98, 99]⟩, .int .i64 1, .slice none 0 0] 39) (w.heap.size) (by simp))
  have HB' := below_alloc (o := .cells #[.int .i64 1, .bool false, .int .i64 0, .string ⟨#[97, 46, 98, 99]⟩, .int .i64 1, .slice none 0 0] 39) HB; clear HB; have HB := HB'; clear HB'
  have Sa := cells6 Ha.out
  obtain ⟨⟨qa0, qa1, qa2, qa3, qa4, qa5⟩, za0, za1, za2, za3, za4, za5⟩ := Sa
  have lt_a := blk_lt Ha.out
  go_wp2_with fail
  refine (HEa.out _).mono ?_
  rintro e w1 ⟨rfl, hb⟩
  clear qa0 za0 qa1 za1 qa2 za2 qa3 za3 qa4 za4 qa5 za5
  have Ha' := Lib.hid (bblock hb Ha.out); clear Ha; have Ha := Ha'; clear Ha'
  have HB' := below_call HB hb; clear HB hb; have HB := HB'; clear HB'; have hz1 := HB.size
  have lt_a_1 := blk_lt Ha.out
  go_wp2_with fail
  refine (HDa.out _).mono ?_
  rintro e w2 ⟨⟨A, c, rfl, hbk⟩, hb⟩
  have Ha' := Lib.hid (bblock hb Ha.out); clear Ha; have Ha := Ha'; clear Ha'
  have HB' := below_call HB hb; clear HB hb; have HB := HB'; clear HB'; have hz2 := HB.size
  have lt_a_2 := blk_lt Ha.out
  have Hbk := Lib.hid hbk; clear hbk
  have Hc := Lib.hid (alloc_new' w2 (.cells #[.int .i64 1, .bool false, .int .i64 0, .string ⟨#[97, 46, 98, 99]⟩, .int .i64 1, .slice A 0 c] 39) (w2.heap.size) (by simp))
  have Ha' := Lib.hid (block_alloc Ha.out (.cells #[.int .i64 1, .bool false, .int .i64 0, .string ⟨#[97, 46, 98, 99]⟩, .int .i64 1, .slice A 0 c] 39)); clear Ha; have Ha := Ha'; clear Ha'
  have Hbk' := Lib.hid (Hbk.out.alloc (.cells #[.int .i64 1, .bool false, .int .i64 0, .string ⟨#[97, 46, 98, 99]⟩, .int .i64 1, .slice A 0 c] 39)); clear Hbk; have Hbk := Hbk'; clear Hbk'
  have HB' := below_alloc (o := .cells #[.int .i64 1, .bool false, .int .i64 0, .string ⟨#[97, 46, 98, 99]⟩, .int .i64 1, .slice A 0 c] 39) HB; clear HB; have HB := HB'; clear HB'
  have Hr := Lib.hid (alloc_new' (w2.alloc (.cells #[.int .i64 1, .bool false, .int .i64 0, .string ⟨#[97, 46, 98, 99]⟩, .int .i64 1, .slice A 0 c] 39)) (.cells #[.string ⟨#[97]⟩, .int .i64 2, .int .i64 9, .int .i64 0, .string ⟨#[98]⟩, .string ⟨#[98]⟩, .int .i64 1, .int .i64 10, .int .i64 5, .string ⟨#[]⟩] 92) (w2.heap.size + 1) (by simp))
  have Ha' := Lib.hid (block_alloc Ha.out (.cells #[.string ⟨#[97]⟩, .int .i64 2, .int .i64 9, .int .i64 0, .string ⟨#[98]⟩, .string ⟨#[98]⟩, .int .i64 1, .int .i64 10, .int .i64 5, .string ⟨#[]⟩] 92)); clear Ha; have Ha := Ha'; clear Ha'
  have Hc' := Lib.hid (block_alloc Hc.out (.cells #[.string ⟨#[97]⟩, .int .i64 2, .int .i64 9, .int .i64 0, .string ⟨#[98]⟩, .string ⟨#[98]⟩, .int .i64 1, .int .i64 10, .int .i64 5, .string ⟨#[]⟩] 92)); clear Hc; have Hc := Hc'; clear Hc'
  have Hbk' := Lib.hid (Hbk.out.alloc (.cells #[.string ⟨#[97]⟩, .int .i64 2, .int .i64 9, .int .i64 0, .string ⟨#[98]⟩, .string ⟨#[98]⟩, .int .i64 1, .int .i64 10, .int .i64 5, .string ⟨#[]⟩] 92)); clear Hbk; have Hbk := Hbk'; clear Hbk'
  have HB' := below_alloc (o := .cells #[.string ⟨#[97]⟩, .int .i64 2, .int .i64 9, .int .i64 0, .string ⟨#[98]⟩, .string ⟨#[98]⟩, .int .i64 1, .int .i64 10, .int .i64 5, .string ⟨#[]⟩] 92) HB; clear HB; have HB := HB'; clear HB'
  have Hb := Lib.hid (alloc_new' ((w2.alloc (.cells #[.int .i64 1, .bool false, .int .i64 0, .string ⟨#[97, 46, 98, 99]⟩, .int .i64 1, .slice A 0 c] 39)).alloc (.cells #[.string ⟨#[97]⟩, .int .i64 2, .int .i64 9, .int .i64 0, .string ⟨#[98]⟩, .string ⟨#[98]⟩, .int .i64 1, .int .i64 10, .int .i64 5, .string ⟨#[]⟩] 92)) (.cells #[.int .i64 258, .bool true, .int .i64 0, .string ⟨#[97]⟩, .int .i64 2, .slice (some ⟨w2.heap.size + 1, 0, none⟩) 2 2] 39) (w2.heap.size + 1 + 1) (by simp))
  have Ha' := Lib.hid (block_alloc Ha.out (.cells #[.int .i64 258, .bool true, .int .i64 0, .string ⟨#[97]⟩, .int .i64 2, .slice (some ⟨w2.heap.size + 1, 0, none⟩) 2 2] 39)); clear Ha; have Ha := Ha'; clear Ha'
  have Hc' := Lib.hid (block_alloc Hc.out (.cells #[.int .i64 258, .bool true, .int .i64 0, .string ⟨#[97]⟩, .int .i64 2, .slice (some ⟨w2.heap.size + 1, 0, none⟩) 2 2] 39)); clear Hc; have Hc := Hc'; clear Hc'
  have Hr' := Lib.hid (block_alloc Hr.out (.cells #[.int .i64 258, .bool true, .int .i64 0, .string ⟨#[97]⟩, .int .i64 2, .slice (some ⟨w2.heap.size + 1, 0, none⟩) 2 2] 39)); clear Hr; have Hr := Hr'; clear Hr'
  have Hbk' := Lib.hid (Hbk.out.alloc (.cells #[.int .i64 258, .bool true, .int .i64 0, .string ⟨#[97]⟩, .int .i64 2, .slice (some ⟨w2.heap.size + 1, 0, none⟩) 2 2] 39)); clear Hbk; have Hbk := Hbk'; clear Hbk'
  have HB' := below_alloc (o := .cells #[.int .i64 258, .bool true, .int .i64 0, .string ⟨#[97]⟩, .int .i64 2, .slice (some ⟨w2.heap.size + 1, 0, none⟩) 2 2] 39) HB; clear HB; have HB := HB'; clear HB'
  have Sb := cells6 Hb.out
  obtain ⟨⟨qb0, qb1, qb2, qb3, qb4, qb5⟩, zb0, zb1, zb2, zb3, zb4, zb5⟩ := Sb
  have lt_b := blk_lt Hb.out
  go_wp2_with fail
  refine (HEb.out _ _ (row_blk Hr.out)).mono ?_
  rintro e w3 ⟨rfl, hb⟩
  clear qb0 zb0 qb1 zb1 qb2 zb2 qb3 zb3 qb4 zb4 qb5 zb5
  have Ha' := Lib.hid (bblock hb Ha.out); clear Ha; have Ha := Ha'; clear Ha'
  have Hc' := Lib.hid (bblock hb Hc.out); clear Hc; have Hc := Hc'; clear Hc'
  have Hr' := Lib.hid (bblock hb Hr.out); clear Hr; have Hr := Hr'; clear Hr'
  have Hb' := Lib.hid (bblock hb Hb.out); clear Hb; have Hb := Hb'; clear Hb'
  have Hbk' := Lib.hid (Hbk.out.below hb); clear Hbk; have Hbk := Hbk'; clear Hbk'
  have HB' := below_call HB hb; clear HB hb; have HB := HB'; clear HB'; have hz3 := HB.size
  have lt_a_3 := blk_lt Ha.out
  have lt_c_3 := blk_lt Hc.out
  have lt_r_3 := blk_lt Hr.out
  have lt_b_3 := blk_lt Hb.out
  go_wp2_with fail
  refine (HDx.out _ _ (by first | rfl | decide)).mono ?_
  rintro e w4 ⟨rfl, hb⟩
  have Ha' := Lib.hid (bblock hb Ha.out); clear Ha; have Ha := Ha'; clear Ha'
  have Hc' := Lib.hid (bblock hb Hc.out); clear Hc; have Hc := Hc'; clear Hc'
  have Hr' := Lib.hid (bblock hb Hr.out); clear Hr; have Hr := Hr'; clear Hr'
  have Hb' := Lib.hid (bblock hb Hb.out); clear Hb; have Hb := Hb'; clear Hb'
  have Hbk' := Lib.hid (Hbk.out.below hb); clear Hbk; have Hbk := Hbk'; clear Hbk'
  have HB' := below_call HB hb; clear HB hb; have HB := HB'; clear HB'; have hz4 := HB.size
  have lt_a_4 := blk_lt Ha.out
  have lt_c_4 := blk_lt Hc.out
  have lt_r_4 := blk_lt Hr.out
  have lt_b_4 := blk_lt Hb.out
  have Ha' := Lib.hid (block_alloc Ha.out (.cells #[.int .i64 0, .bool false, .int .i64 0, .string ⟨#[]⟩, .int .i64 0, .slice none 0 0] 39)); clear Ha; have Ha := Ha'; clear Ha'
  have Hc' := Lib.hid (block_alloc Hc.out (.cells #[.int .i64 0, .bool false, .int .i64 0, .string ⟨#[]⟩, .int .i64 0, .slice none 0 0] 39)); clear Hc; have Hc := Hc'; clear Hc'
  have Hr' := Lib.hid (block_alloc Hr.out (.cells #[.int .i64 0, .bool false, .int .i64 0, .string ⟨#[]⟩, .int .i64 0, .slice none 0 0] 39)); clear Hr; have Hr := Hr'; clear Hr'
  have Hb' := Lib.hid (block_alloc Hb.out (.cells #[.int .i64 0, .bool false, .int .i64 0, .string ⟨#[]⟩, .int .i64 0, .slice none 0 0] 39)); clear Hb; have Hb := Hb'; clear Hb'
  have Hbk' := Lib.hid (Hbk.out.alloc (.cells #[.int .i64 0, .bool false, .int .i64 0, .string ⟨#[]⟩, .int .i64 0, .slice none 0 0] 39)); clear Hbk; have Hbk := Hbk'; clear Hbk'
  have HB' := below_alloc (o := .cells #[.int .i64 0, .bool false, .int .i64 0, .string ⟨#[]⟩, .int .i64 0, .slice none 0 0] 39) HB; clear HB; have HB := HB'; clear HB'
  go_wp2_with fail
  refine (HEz.out _).mono ?_
  rintro e w5 ⟨rfl, hb⟩
  have Ha' := Lib.hid (bblock hb Ha.out); clear Ha; have Ha := Ha'; clear Ha'
  have Hc' := Lib.hid (bblock hb Hc.out); clear Hc; have Hc := Hc'; clear Hc'
  have Hr' := Lib.hid (bblock hb Hr.out); clear Hr; have Hr := Hr'; clear Hr'
  have Hb' := Lib.hid (bblock hb Hb.out); clear Hb; have Hb := Hb'; clear Hb'
  have Hbk' := Lib.hid (Hbk.out.below hb); clear Hbk; have Hbk := Hbk'; clear Hbk'
  have HB' := below_call HB hb; clear HB hb; have HB := HB'; clear HB'; have hz5 := HB.size
  have lt_a_5 := blk_lt Ha.out
  have lt_c_5 := blk_lt Hc.out
  have lt_r_5 := blk_lt Hr.out
  have lt_b_5 := blk_lt Hb.out
  have Sa := cells6 Ha.out
  obtain ⟨⟨qa0, qa1, qa2, qa3, qa4, qa5⟩, za0, za1, za2, za3, za4, za5⟩ := Sa
  have lt_a := blk_lt Ha.out
  have Sc := cells6 Hc.out
  obtain ⟨⟨qc0, qc1, qc2, qc3, qc4, qc5⟩, zc0, zc1, zc2, zc3, zc4, zc5⟩ := Sc
  have lt_c := blk_lt Hc.out
  go_wp2_with fail
  refine (HRS.out _ A c _ Hbk.out).mono ?_
  rintro e w6 ⟨rfl, hb⟩
  clear qa0 za0 qa1 za1 qa2 za2 qa3 za3 qa4 za4 qa5 za5
  clear qc0 zc0 qc1 zc1 qc2 zc2 qc3 zc3 qc4 zc4 qc5 zc5
  have Ha' := Lib.hid (bblock hb Ha.out); clear Ha; have Ha := Ha'; clear Ha'
  have Hc' := Lib.hid (bblock hb Hc.out); clear Hc; have Hc := Hc'; clear Hc'
  have Hr' := Lib.hid (bblock hb Hr.out); clear Hr; have Hr := Hr'; clear Hr'
  have Hb' := Lib.hid (bblock hb Hb.out); clear Hb; have Hb := Hb'; clear Hb'
  have Hbk' := Lib.hid (Hbk.out.below hb); clear Hbk; have Hbk := Hbk'; clear Hbk'
  have HB' := below_call HB hb; clear HB hb; have HB := HB'; clear HB'; have hz6 := HB.size
  have lt_a_6 := blk_lt Ha.out
  have lt_c_6 := blk_lt Hc.out
  have lt_r_6 := blk_lt Hr.out
  have lt_b_6 := blk_lt Hb.out
  go_wp2_with fail
  refine (HN1.out _).mono ?_
  rintro e w7 ⟨rfl, hb⟩
  have Ha' := Lib.hid (bblock hb Ha.out); clear Ha; have Ha := Ha'; clear Ha'
  have Hc' := Lib.hid (bblock hb Hc.out); clear Hc; have Hc := Hc'; clear Hc'
  have Hr' := Lib.hid (bblock hb Hr.out); clear Hr; have Hr := Hr'; clear Hr'
  have Hb' := Lib.hid (bblock hb Hb.out); clear Hb; have Hb := Hb'; clear Hb'
  have Hbk' := Lib.hid (Hbk.out.below hb); clear Hbk; have Hbk := Hbk'; clear Hbk'
  have HB' := below_call HB hb; clear HB hb; have HB := HB'; clear HB'; have hz7 := HB.size
  have lt_a_7 := blk_lt Ha.out
  have lt_c_7 := blk_lt Hc.out
  have lt_r_7 := blk_lt Hr.out
  have lt_b_7 := blk_lt Hb.out
  go_wp2_with fail
  refine (HN2.out _).mono ?_
  rintro e w8 ⟨rfl, hb⟩
  have Ha' := Lib.hid (bblock hb Ha.out); clear Ha; have Ha := Ha'; clear Ha'
  have Hc' := Lib.hid (bblock hb Hc.out); clear Hc; have Hc := Hc'; clear Hc'
  have Hr' := Lib.hid (bblock hb Hr.out); clear Hr; have Hr := Hr'; clear Hr'
  have Hb' := Lib.hid (bblock hb Hb.out); clear Hb; have Hb := Hb'; clear Hb'
  have Hbk' := Lib.hid (Hbk.out.below hb); clear Hbk; have Hbk := Hbk'; clear Hbk'
  have HB' := below_call HB hb; clear HB hb; have HB := HB'; clear HB'; have hz8 := HB.size
  have lt_a_8 := blk_lt Ha.out
  have lt_c_8 := blk_lt Hc.out
  have lt_r_8 := blk_lt Hr.out
  have lt_b_8 := blk_lt Hb.out
  go_wp2_with fail
  refine (HN3.out _).mono ?_
  rintro e w9 ⟨rfl, hb⟩
  have Ha' := Lib.hid (bblock hb Ha.out); clear Ha; have Ha := Ha'; clear Ha'
  have Hc' := Lib.hid (bblock hb Hc.out); clear Hc; have Hc := Hc'; clear Hc'
  have Hr' := Lib.hid (bblock hb Hr.out); clear Hr; have Hr := Hr'; clear Hr'
  have Hb' := Lib.hid (bblock hb Hb.out); clear Hb; have Hb := Hb'; clear Hb'
  have Hbk' := Lib.hid (Hbk.out.below hb); clear Hbk; have Hbk := Hbk'; clear Hbk'
  have HB' := below_call HB hb; clear HB hb; have HB := HB'; clear HB'; have hz9 := HB.size
  have lt_a_9 := blk_lt Ha.out
  have lt_c_9 := blk_lt Hc.out
  have lt_r_9 := blk_lt Hr.out
  have lt_b_9 := blk_lt Hb.out
  go_wp2_with fail
  refine (HN4.out _).mono ?_
  rintro e w10 ⟨rfl, hb⟩
  have Ha' := Lib.hid (bblock hb Ha.out); clear Ha; have Ha := Ha'; clear Ha'
  have Hc' := Lib.hid (bblock hb Hc.out); clear Hc; have Hc := Hc'; clear Hc'
  have Hr' := Lib.hid (bblock hb Hr.out); clear Hr; have Hr := Hr'; clear Hr'
  have Hb' := Lib.hid (bblock hb Hb.out); clear Hb; have Hb := Hb'; clear Hb'
  have Hbk' := Lib.hid (Hbk.out.below hb); clear Hbk; have Hbk := Hbk'; clear Hbk'
  have HB' := below_call HB hb; clear HB hb; have HB := HB'; clear HB'; have hz10 := HB.size
  have lt_a_10 := blk_lt Ha.out
  have lt_c_10 := blk_lt Hc.out
  have lt_r_10 := blk_lt Hr.out
  have lt_b_10 := blk_lt Hb.out
  go_wp2_with fail
  refine (HN5.out _).mono ?_
  rintro e w11 ⟨rfl, hb⟩
  have Ha' := Lib.hid (bblock hb Ha.out); clear Ha; have Ha := Ha'; clear Ha'
  have Hc' := Lib.hid (bblock hb Hc.out); clear Hc; have Hc := Hc'; clear Hc'
  have Hr' := Lib.hid (bblock hb Hr.out); clear Hr; have Hr := Hr'; clear Hr'
  have Hb' := Lib.hid (bblock hb Hb.out); clear Hb; have Hb := Hb'; clear Hb'
  have Hbk' := Lib.hid (Hbk.out.below hb); clear Hbk; have Hbk := Hbk'; clear Hbk'
  have HB' := below_call HB hb; clear HB hb; have HB := HB'; clear HB'; have hz11 := HB.size
  have lt_a_11 := blk_lt Ha.out
  have lt_c_11 := blk_lt Hc.out
  have lt_r_11 := blk_lt Hr.out
  have lt_b_11 := blk_lt Hb.out
  have Sb := cells6 Hb.out
  obtain ⟨⟨qb0, qb1, qb2, qb3, qb4, qb5⟩, zb0, zb1, zb2, zb3, zb4, zb5⟩ := Sb
  have lt_b := blk_lt Hb.out
  go_wp2_with fail
  refine (HVb.out _ _ (row_blk Hr.out)).mono ?_
  rintro e w12 ⟨rfl, hb⟩
  clear qb0 zb0 qb1 zb1 qb2 zb2 qb3 zb3 qb4 zb4 qb5 zb5
  have Ha' := Lib.hid (bblock hb Ha.out); clear Ha; have Ha := Ha'; clear Ha'
  have Hc' := Lib.hid (bblock hb Hc.out); clear Hc; have Hc := Hc'; clear Hc'
  have Hr' := Lib.hid (bblock hb Hr.out); clear Hr; have Hr := Hr'; clear Hr'
  have Hb' := Lib.hid (bblock hb Hb.out); clear Hb; have Hb := Hb'; clear Hb'
  have Hbk' := Lib.hid (Hbk.out.below hb); clear Hbk; have Hbk := Hbk'; clear Hbk'
  have HB' := below_call HB hb; clear HB hb; have HB := HB'; clear HB'; have hz12 := HB.size
  have lt_a_12 := blk_lt Ha.out
  have lt_c_12 := blk_lt Hc.out
  have lt_r_12 := blk_lt Hr.out
  have lt_b_12 := blk_lt Hb.out
  go_wp2_with fail
  refine (HVz.out _).mono ?_
  rintro e w13 ⟨rfl, hb⟩
  have Ha' := Lib.hid (bblock hb Ha.out); clear Ha; have Ha := Ha'; clear Ha'
  have Hc' := Lib.hid (bblock hb Hc.out); clear Hc; have Hc := Hc'; clear Hc'
  have Hr' := Lib.hid (bblock hb Hr.out); clear Hr; have Hr := Hr'; clear Hr'
  have Hb' := Lib.hid (bblock hb Hb.out); clear Hb; have Hb := Hb'; clear Hb'
  have Hbk' := Lib.hid (Hbk.out.below hb); clear Hbk; have Hbk := Hbk'; clear Hbk'
  have HB' := below_call HB hb; clear HB hb; have HB := HB'; clear HB'; have hz13 := HB.size
  have lt_a_13 := blk_lt Ha.out
  have lt_c_13 := blk_lt Hc.out
  have lt_r_13 := blk_lt Hr.out
  have lt_b_13 := blk_lt Hb.out
  have Sb := cells6 Hb.out
  obtain ⟨⟨qb0, qb1, qb2, qb3, qb4, qb5⟩, zb0, zb1, zb2, zb3, zb4, zb5⟩ := Sb
  have lt_b := blk_lt Hb.out
  go_wp2_with fail
  refine (HSb.out _ _ (row_blk Hr.out)).mono ?_
  rintro e w14 ⟨rfl, hb⟩
  clear qb0 zb0 qb1 zb1 qb2 zb2 qb3 zb3 qb4 zb4 qb5 zb5
  have Ha' := Lib.hid (bblock hb Ha.out); clear Ha; have Ha := Ha'; clear Ha'
  have Hc' := Lib.hid (bblock hb Hc.out); clear Hc; have Hc := Hc'; clear Hc'
  have Hr' := Lib.hid (bblock hb Hr.out); clear Hr; have Hr := Hr'; clear Hr'
  have Hb' := Lib.hid (bblock hb Hb.out); clear Hb; have Hb := Hb'; clear Hb'
  have Hbk' := Lib.hid (Hbk.out.below hb); clear Hbk; have Hbk := Hbk'; clear Hbk'
  have HB' := below_call HB hb; clear HB hb; have HB := HB'; clear HB'; have hz14 := HB.size
  have lt_a_14 := blk_lt Ha.out
  have lt_c_14 := blk_lt Hc.out
  have lt_r_14 := blk_lt Hr.out
  have lt_b_14 := blk_lt Hb.out
  have Sa := cells6 Ha.out
  obtain ⟨⟨qa0, qa1, qa2, qa3, qa4, qa5⟩, za0, za1, za2, za3, za4, za5⟩ := Sa
  have lt_a := blk_lt Ha.out
  have Sb := cells6 Hb.out
  obtain ⟨⟨qb0, qb1, qb2, qb3, qb4, qb5⟩, zb0, zb1, zb2, zb3, zb4, zb5⟩ := Sb
  have lt_b := blk_lt Hb.out
  go_wp2_with fail
  refine (HSab.out _ _ (row_blk Hr.out)).mono ?_
  rintro e w15 ⟨rfl, hb⟩
  clear qa0 za0 qa1 za1 qa2 za2 qa3 za3 qa4 za4 qa5 za5
  clear qb0 zb0 qb1 zb1 qb2 zb2 qb3 zb3 qb4 zb4 qb5 zb5
  have Ha' := Lib.hid (bblock hb Ha.out); clear Ha; have Ha := Ha'; clear Ha'
  have Hc' := Lib.hid (bblock hb Hc.out); clear Hc; have Hc := Hc'; clear Hc'
  have Hr' := Lib.hid (bblock hb Hr.out); clear Hr; have Hr := Hr'; clear Hr'
  have Hb' := Lib.hid (bblock hb Hb.out); clear Hb; have Hb := Hb'; clear Hb'
  have Hbk' := Lib.hid (Hbk.out.below hb); clear Hbk; have Hbk := Hbk'; clear Hbk'
  have HB' := below_call HB hb; clear HB hb; have HB := HB'; clear HB'; have hz15 := HB.size
  have lt_a_15 := blk_lt Ha.out
  have lt_c_15 := blk_lt Hc.out
  have lt_r_15 := blk_lt Hr.out
  have lt_b_15 := blk_lt Hb.out
  go_wp2_with fail
  go_ret
  exact ⟨rfl, HB⟩
end Go.Proofs.YtmgjcjacoegocaaGreatDoor.Dn
