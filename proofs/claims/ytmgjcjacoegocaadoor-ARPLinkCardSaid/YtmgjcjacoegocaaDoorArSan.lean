/-
  The helper sanity of the laws of chapter 05.
-/
import Derived.Test.YtmgjcjacoegocaaDoorArOne
import Derived.Test.YtmgjcjacoegocaaDoorArEnc
import Derived.BigQuiet
namespace Go.Proofs.YtmgjcjacoegocaaDoor.Ar
set_option maxRecDepth 100000
open Go.RowKit Go.Proofs.YtmgjcjacoegocaaDoor.Wire

theorem low_new {W : World} {own mac : Int} : Below W.heap.size W (W.alloc (.cells #[.int .i64 own, .int .i64 mac, .map none, .bool false, .int .i64 0] 102)) := below_alloc (Below.refl _ _)
set_option maxHeartbeats 8000000 in
theorem sanity_any (w : World) : Calls Tryd.prog 14 #[] w fun e w' => e = .returned (.bool true) ∧ Below w.heap.size w w' := by
  go_enter Tryd.func14, Tryd.ntmps14
  go_wp2_with fail
  refine (new_any 10 1 _).mono ?_
  rintro x w1 (⟨-, -, rfl, hw1⟩ | ⟨hb, -, -⟩)
  case inr => rcases hb with hb | hb <;> cases hb
  have HO : Hid (OneA w w.heap.size ⟨10, 1, false, 0⟩ [] (fun _ => False) w1) := Lib.hid (by rw [hw1]; exact (OneA.ofNew (Below.refl w.heap.size w) 10 1).more (fun q hq => hq.elim))
  clear hw1
  obtain ⟨T, hT⟩ : ∃ T, w.heap.size = T := ⟨_, rfl⟩
  have HW := Lib.hid hT
  rw [hT] at HO ⊢
  clear hT
  go_wp2_with fail
  refine (HO.out.send 0 11 ⟨#[97]⟩ [(11, .inc [⟨#[97]⟩] 1 0 0)] 0 [⟨1, 10, 1, 11, 0⟩] 0 (by kernel_rfl) (by simp [ByteArray.size]) (by unfold In64; (try dsimp only); omega) (by simp)).mono ?_
  rintro x w2 ⟨Bw2, kw2, rfl, hm, ho, hk⟩
  have HO' := Lib.hid (ho.more (K' := (fun q => BK Bw2 q)) (fun q r => by (exact .inl (.inr ( r)))))
  have HRA := Lib.hid hm
  clear HO
  have HO := HO'; clear HO'
  clear hk ho hm
  go_wp2_with fail
  refine (HO.out.send 1 11 ⟨#[98]⟩ [(11, .inc [⟨#[97]⟩, ⟨#[98]⟩] 1 0 0)] 0 [] 0 (by kernel_rfl) (by simp [ByteArray.size]) (by unfold In64; (try dsimp only); omega) (by simp)).mono ?_
  rintro x w3 ⟨Bw3, kw3, rfl, hm, ho, hk⟩
  have HRA' := Lib.hid (HRA.out.kept (fun y e => hk.2 _ (⟨y, e, rfl⟩) (HRA.out.bk e).2))
  have HO' := Lib.hid (ho.more (K' := (fun q => BK Bw2 q)) (fun q r => by (exact .inl (.inl ⟨r, (HRA.out.bk' r).2⟩))))
  clear HRA
  clear HO
  have HO := HO'; clear HO'
  have HRA := HRA'; clear HRA'
  clear hk ho hm
  go_wp2_with fail
  refine (HO.out.recv 2 2 11 7 10 1 ⟨10, 1, false, 0⟩ [(11, .res 7 2 2)] [] [⟨11, 7, ⟨#[97]⟩⟩, ⟨11, 7, ⟨#[98]⟩⟩] (by kernel_rfl) (by unfold In64; (try dsimp only); omega) (by unfold In64; (try dsimp only); omega)).mono ?_
  rintro x w4 ⟨Bw4, kw4, Dw4, dw4, rfl, hm, hh, ho, hk⟩
  have HRA' := Lib.hid (HRA.out.kept (fun y e => hk.2 _ (⟨y, e, rfl⟩) (HRA.out.bk e).2))
  have HO' := Lib.hid (ho.more (K' := (fun q => BK Bw2 q ∨ BK Dw4 q)) (fun q hq => by rcases hq with r | r; (exact .inl (.inl ⟨r, (HRA.out.bk' r).2⟩)); (exact .inl (.inr (.inr r)))))
  have HRD := Lib.hid hh
  clear HRA
  clear HO
  have HO := HO'; clear HO'
  have HRA := HRA'; clear HRA'
  clear hk ho hh hm
  go_wp2_with fail
  refine (HO.out.recv 3 2 11 8 10 1 ⟨10, 1, false, 0⟩ [(11, .res 7 2 2)] [] [] (by kernel_rfl) (by unfold In64; (try dsimp only); omega) (by unfold In64; (try dsimp only); omega)).mono ?_
  rintro x w5 ⟨Bw5, kw5, Dw5, dw5, rfl, hm, hh, ho, hk⟩
  have HRA' := Lib.hid (HRA.out.kept (fun y e => hk.2 _ (.inl ⟨y, e, rfl⟩) (HRA.out.bk e).2))
  have HRD' := Lib.hid (HRD.out.kept (fun y e => hk.2 _ (.inr (⟨y, e, rfl⟩)) (HRD.out.bk e).2))
  have HO' := Lib.hid (ho.more (K' := (fun q => BK Bw2 q ∨ BK Dw4 q)) (fun q hq => by rcases hq with r | r; (exact .inl (.inl ⟨.inl r, (HRA.out.bk' r).2⟩)); (exact .inl (.inl ⟨.inr (r), (HRD.out.bk' r).2⟩))))
  clear HRA HRD
  clear HO
  have HO := HO'; clear HO'
  have HRA := HRA'; clear HRA'
  have HRD := HRD'; clear HRD'
  clear hk ho hh hm
  go_wp2_with fail
  refine (HO.out.known 11 (.tuple #[.int .i64 7, .bool true]) rfl).mono ?_
  rintro x w5' ⟨rfl, rfl⟩
  go_wp2_with fail
  refine (HO.out.recv 4 1 10 9 12 0 ⟨10, 1, true, 4⟩ [(11, .res 7 2 2)] [⟨1, 10, 1, 10, 0⟩] [] (by kernel_rfl) (by unfold In64; (try dsimp only); omega) (by unfold In64; (try dsimp only); omega)).mono ?_
  rintro x w6 ⟨Bw6, kw6, Dw6, dw6, rfl, hm, hh, ho, hk⟩
  have HRA' := Lib.hid (HRA.out.kept (fun y e => hk.2 _ (.inl ⟨y, e, rfl⟩) (HRA.out.bk e).2))
  have HRD' := Lib.hid (HRD.out.kept (fun y e => hk.2 _ (.inr (⟨y, e, rfl⟩)) (HRD.out.bk e).2))
  have HO' := Lib.hid (ho.more (K' := (fun q => BK Bw2 q ∨ BK Dw4 q ∨ BK Bw6 q)) (fun q hq => by rcases hq with r | r | r; (exact .inl (.inl ⟨.inl r, (HRA.out.bk' r).2⟩)); (exact .inl (.inl ⟨.inr (r), (HRD.out.bk' r).2⟩)); (exact .inl (.inr (.inl r)))))
  have HRS := Lib.hid hm
  clear HRA HRD
  clear HO
  have HO := HO'; clear HO'
  have HRA := HRA'; clear HRA'
  have HRD := HRD'; clear HRD'
  clear hk ho hh hm
  go_wp2_with fail
  refine (HO.out.send 5 10 ⟨#[97]⟩ [(11, .res 7 2 2)] 0 [] 50 (by kernel_rfl) (by simp [ByteArray.size]) (by unfold In64; (try dsimp only); omega) (by simp)).mono ?_
  rintro x w7 ⟨Bw7, kw7, rfl, hm, ho, hk⟩
  have HRA' := Lib.hid (HRA.out.kept (fun y e => hk.2 _ (.inl ⟨y, e, rfl⟩) (HRA.out.bk e).2))
  have HRD' := Lib.hid (HRD.out.kept (fun y e => hk.2 _ (.inr (.inl ⟨y, e, rfl⟩)) (HRD.out.bk e).2))
  have HRS' := Lib.hid (HRS.out.kept (fun y e => hk.2 _ (.inr (.inr (⟨y, e, rfl⟩))) (HRS.out.bk e).2))
  have HO' := Lib.hid (ho.more (K' := (fun q => BK Bw2 q ∨ BK Dw4 q ∨ BK Bw6 q)) (fun q hq => by rcases hq with r | r | r; (exact .inl (.inl ⟨.inl r, (HRA.out.bk' r).2⟩)); (exact .inl (.inl ⟨.inr (.inl r), (HRD.out.bk' r).2⟩)); (exact .inl (.inl ⟨.inr (.inr (r)), (HRS.out.bk' r).2⟩))))
  clear HRA HRD HRS
  clear HO
  have HO := HO'; clear HO'
  have HRA := HRA'; clear HRA'
  have HRD := HRD'; clear HRD'
  have HRS := HRS'; clear HRS'
  clear hk ho hm
  go_wp2_with fail
  refine (new_any 0 1 _).mono ?_
  rintro x w7' (⟨hb, -, -, -⟩ | ⟨-, rfl, rfl⟩)
  case inl => cases hb
  go_wp2_with fail
  refine (encode_ok 1 10 1 11 0 _ (by decide)).mono ?_
  rintro x w8 ⟨rfl, hb8⟩
  obtain ⟨str, hstr⟩ : ∃ s : ByteArray, (⟨(encM ⟨1, 10, 1, 11, 0⟩).toArray⟩ : ByteArray) = s := ⟨_, rfl⟩
  have hss : str.size = 13 := by rw [← hstr]; rfl
  have hsd : decR str = .tuple #[.agg #[.int .i64 1, .int .i64 10, .int .i64 1, .int .i64 11, .int .i64 0], .int .i64 0] := by rw [← hstr]; kernel_rfl
  rw [hstr]; clear hstr
  have HSS := Lib.hid hss; have HSD := Lib.hid hsd; clear hss hsd
  have HO' := Lib.hid (HO.out.below hb8); have HRA' := Lib.hid (HRA.out.below hb8); have HRD' := Lib.hid (HRD.out.below hb8); have HRS' := Lib.hid (HRS.out.below hb8)
  clear HO HRA HRD HRS hb8
  go_wp2_with fail
  refine (decode_13 _ w8 HSS.out).mono ?_
  rintro x w9 ⟨hx, hb9⟩
  rw [HSD.out] at hx; subst hx
  have HRA'' := Lib.hid (HRA'.out.below hb9); clear HRA'; have HRA' := HRA''; clear HRA''
  have HRD'' := Lib.hid (HRD'.out.below hb9); clear HRD'; have HRD' := HRD''; clear HRD''
  have HRS'' := Lib.hid (HRS'.out.below hb9); clear HRS'; have HRS' := HRS''; clear HRS''
  have HO'' := Lib.hid (HO'.out.below hb9); clear HO'; have HO' := HO''; clear HO''
  clear hb9
  have HRB := Lib.hid (alloc_new w9 (.cells #[.int .i64 1, .int .i64 10, .int .i64 1, .int .i64 11, .int .i64 0] 52))
  have HRA'' := Lib.hid (HRA'.out.below ((Below.refl w9.heap.size w9).alloc (Nat.le_refl _) (.cells #[.int .i64 1, .int .i64 10, .int .i64 1, .int .i64 11, .int .i64 0] 52))); clear HRA'; have HRA' := HRA''; clear HRA''
  have HRD'' := Lib.hid (HRD'.out.below ((Below.refl w9.heap.size w9).alloc (Nat.le_refl _) (.cells #[.int .i64 1, .int .i64 10, .int .i64 1, .int .i64 11, .int .i64 0] 52))); clear HRD'; have HRD' := HRD''; clear HRD''
  have HRS'' := Lib.hid (HRS'.out.below ((Below.refl w9.heap.size w9).alloc (Nat.le_refl _) (.cells #[.int .i64 1, .int .i64 10, .int .i64 1, .int .i64 11, .int .i64 0] 52))); clear HRS'; have HRS' := HRS''; clear HRS''
  have HO'' := Lib.hid (HO'.out.below ((Below.refl w9.heap.size w9).alloc (Nat.le_refl _) (.cells #[.int .i64 1, .int .i64 10, .int .i64 1, .int .i64 11, .int .i64 0] 52))); clear HO'; have HO' := HO''; clear HO''
  obtain ⟨bHRB, hHRB⟩ : ∃ y, w9.heap.size = y := ⟨_, rfl⟩
  rw [hHRB] at HRB
  have EHRB := Lib.hid hHRB; clear hHRB
  go_upto_region 12 with fail
  rw [EHRB.out]
  clear EHRB
  generalize w9.alloc (.cells #[.int .i64 1, .int .i64 10, .int .i64 1, .int .i64 11, .int .i64 0] 52) = w10 at *
  have HRB' := Lib.hid (block_alloc HRB.out (.cells #[.int .i64 1, .int .i64 10, .int .i64 1, .int .i64 11, .int .i64 0] 52)); clear HRB; have HRB := HRB'; clear HRB'
  have HAK := Lib.hid (alloc_new w10 (.cells #[.int .i64 1, .int .i64 10, .int .i64 1, .int .i64 11, .int .i64 0] 52))
  have HRA'' := Lib.hid (HRA'.out.below ((Below.refl w10.heap.size w10).alloc (Nat.le_refl _) (.cells #[.int .i64 1, .int .i64 10, .int .i64 1, .int .i64 11, .int .i64 0] 52))); clear HRA'; have HRA' := HRA''; clear HRA''
  have HRD'' := Lib.hid (HRD'.out.below ((Below.refl w10.heap.size w10).alloc (Nat.le_refl _) (.cells #[.int .i64 1, .int .i64 10, .int .i64 1, .int .i64 11, .int .i64 0] 52))); clear HRD'; have HRD' := HRD''; clear HRD''
  have HRS'' := Lib.hid (HRS'.out.below ((Below.refl w10.heap.size w10).alloc (Nat.le_refl _) (.cells #[.int .i64 1, .int .i64 10, .int .i64 1, .int .i64 11, .int .i64 0] 52))); clear HRS'; have HRS' := HRS''; clear HRS''
  have HO'' := Lib.hid (HO'.out.below ((Below.refl w10.heap.size w10).alloc (Nat.le_refl _) (.cells #[.int .i64 1, .int .i64 10, .int .i64 1, .int .i64 11, .int .i64 0] 52))); clear HO'; have HO' := HO''; clear HO''
  obtain ⟨bHAK, hHAK⟩ : ∃ y, w10.heap.size = y := ⟨_, rfl⟩
  rw [hHAK] at HAK
  have EHAK := Lib.hid hHAK; clear hHAK
  go_upto_region 13 with fail
  rw [EHAK.out]
  clear EHAK
  generalize w10.alloc (.cells #[.int .i64 1, .int .i64 10, .int .i64 1, .int .i64 11, .int .i64 0] 52) = w11 at *
  have ltk := blk_lt HAK.out; have ltr := blk_lt HRB.out
  obtain ⟨⟨k0, k1, k2, k3, k4⟩, -⟩ := cells5 HAK.out
  go_wp2_with fail
  have HOW := Lib.hid (block_alloc (alloc_new w11 (.cells #[.int .i64 1, .int .i64 10, .int .i64 1, .int .i64 10, .int .i64 0] 52)) (.cells #[.int .i64 1, .int .i64 10, .int .i64 1, .int .i64 11, .int .i64 0] 52))
  have HAK2 := Lib.hid (block_alloc (block_alloc HAK.out (.cells #[.int .i64 1, .int .i64 10, .int .i64 1, .int .i64 10, .int .i64 0] 52)) (.cells #[.int .i64 1, .int .i64 10, .int .i64 1, .int .i64 11, .int .i64 0] 52)); have HRB2 := Lib.hid (block_alloc (block_alloc HRB.out (.cells #[.int .i64 1, .int .i64 10, .int .i64 1, .int .i64 10, .int .i64 0] 52)) (.cells #[.int .i64 1, .int .i64 10, .int .i64 1, .int .i64 11, .int .i64 0] 52))
  have HN2 := Lib.hid (alloc_new' (w11.alloc (.cells #[.int .i64 1, .int .i64 10, .int .i64 1, .int .i64 10, .int .i64 0] 52)) (.cells #[.int .i64 1, .int .i64 10, .int .i64 1, .int .i64 11, .int .i64 0] 52) (w11.heap.size + 1) (by simp))
  have HRA'' := Lib.hid (HRA'.out.below (((Below.refl w11.heap.size w11).alloc (Nat.le_refl _) (.cells #[.int .i64 1, .int .i64 10, .int .i64 1, .int .i64 10, .int .i64 0] 52)).alloc (by simp) (.cells #[.int .i64 1, .int .i64 10, .int .i64 1, .int .i64 11, .int .i64 0] 52))); clear HRA'; have HRA' := HRA''; clear HRA''
  have HRD'' := Lib.hid (HRD'.out.below (((Below.refl w11.heap.size w11).alloc (Nat.le_refl _) (.cells #[.int .i64 1, .int .i64 10, .int .i64 1, .int .i64 10, .int .i64 0] 52)).alloc (by simp) (.cells #[.int .i64 1, .int .i64 10, .int .i64 1, .int .i64 11, .int .i64 0] 52))); clear HRD'; have HRD' := HRD''; clear HRD''
  have HRS'' := Lib.hid (HRS'.out.below (((Below.refl w11.heap.size w11).alloc (Nat.le_refl _) (.cells #[.int .i64 1, .int .i64 10, .int .i64 1, .int .i64 10, .int .i64 0] 52)).alloc (by simp) (.cells #[.int .i64 1, .int .i64 10, .int .i64 1, .int .i64 11, .int .i64 0] 52))); clear HRS'; have HRS' := HRS''; clear HRS''
  have HO'' := Lib.hid (HO'.out.below (((Below.refl w11.heap.size w11).alloc (Nat.le_refl _) (.cells #[.int .i64 1, .int .i64 10, .int .i64 1, .int .i64 10, .int .i64 0] 52)).alloc (by simp) (.cells #[.int .i64 1, .int .i64 10, .int .i64 1, .int .i64 11, .int .i64 0] 52))); clear HO'; have HO' := HO''; clear HO''
  clear k0 k1 k2 k3 k4 HAK HRB
  refine (sameArps_any [⟨1, 10, 1, 11, 0⟩] [⟨1, 10, 1, 11, 0⟩] _ 0 _ _ _ _ _ HRA'.out (mrow_one (a := ⟨1, 10, 1, 11, 0⟩) (Nat.zero_le _) HN2.out) (by simp)).mono ?_
  rintro x w12 ⟨rfl, hb12⟩
  have hdd : decide ([(⟨1, 10, 1, 11, 0⟩ : Am)] = [⟨1, 10, 1, 11, 0⟩]) = true := by decide
  rw [hdd]; clear hdd
  have HRA'' := Lib.hid (HRA'.out.below hb12); clear HRA'; have HRA' := HRA''; clear HRA''
  have HRD'' := Lib.hid (HRD'.out.below hb12); clear HRD'; have HRD' := HRD''; clear HRD''
  have HRS'' := Lib.hid (HRS'.out.below hb12); clear HRS'; have HRS' := HRS''; clear HRS''
  have HO'' := Lib.hid (HO'.out.below hb12); clear HO'; have HO' := HO''; clear HO''
  have HOW' := Lib.hid (bblock hb12 HOW.out); clear HOW; have HOW := HOW'; clear HOW'
  have HAK2' := Lib.hid (bblock hb12 HAK2.out); clear HAK2; have HAK2 := HAK2'; clear HAK2'
  have HRB2' := Lib.hid (bblock hb12 HRB2.out); clear HRB2; have HRB2 := HRB2'; clear HRB2'
  clear hb12 HN2
  go_wp2_with fail
  have HN3 := Lib.hid (alloc_new w12 (.cells #[.int .i64 11, .int .i64 7, .string ⟨#[97]⟩, .int .i64 11, .int .i64 7, .string ⟨#[98]⟩] 62))
  have HRA'' := Lib.hid (HRA'.out.below ((Below.refl w12.heap.size w12).alloc (Nat.le_refl _) (.cells #[.int .i64 11, .int .i64 7, .string ⟨#[97]⟩, .int .i64 11, .int .i64 7, .string ⟨#[98]⟩] 62))); clear HRA'; have HRA' := HRA''; clear HRA''
  have HRD'' := Lib.hid (HRD'.out.below ((Below.refl w12.heap.size w12).alloc (Nat.le_refl _) (.cells #[.int .i64 11, .int .i64 7, .string ⟨#[97]⟩, .int .i64 11, .int .i64 7, .string ⟨#[98]⟩] 62))); clear HRD'; have HRD' := HRD''; clear HRD''
  have HRS'' := Lib.hid (HRS'.out.below ((Below.refl w12.heap.size w12).alloc (Nat.le_refl _) (.cells #[.int .i64 11, .int .i64 7, .string ⟨#[97]⟩, .int .i64 11, .int .i64 7, .string ⟨#[98]⟩] 62))); clear HRS'; have HRS' := HRS''; clear HRS''
  have HO'' := Lib.hid (HO'.out.below ((Below.refl w12.heap.size w12).alloc (Nat.le_refl _) (.cells #[.int .i64 11, .int .i64 7, .string ⟨#[97]⟩, .int .i64 11, .int .i64 7, .string ⟨#[98]⟩] 62))); clear HO'; have HO' := HO''; clear HO''
  have HOW' := Lib.hid (bblock ((Below.refl w12.heap.size w12).alloc (Nat.le_refl _) (.cells #[.int .i64 11, .int .i64 7, .string ⟨#[97]⟩, .int .i64 11, .int .i64 7, .string ⟨#[98]⟩] 62)) HOW.out); clear HOW; have HOW := HOW'; clear HOW'
  have HAK2' := Lib.hid (bblock ((Below.refl w12.heap.size w12).alloc (Nat.le_refl _) (.cells #[.int .i64 11, .int .i64 7, .string ⟨#[97]⟩, .int .i64 11, .int .i64 7, .string ⟨#[98]⟩] 62)) HAK2.out); clear HAK2; have HAK2 := HAK2'; clear HAK2'
  have HRB2' := Lib.hid (bblock ((Below.refl w12.heap.size w12).alloc (Nat.le_refl _) (.cells #[.int .i64 11, .int .i64 7, .string ⟨#[97]⟩, .int .i64 11, .int .i64 7, .string ⟨#[98]⟩] 62)) HRB2.out); clear HRB2; have HRB2 := HRB2'; clear HRB2'
  refine (sameHeld_any [⟨11, 7, ⟨#[97]⟩⟩, ⟨11, 7, ⟨#[98]⟩⟩] [⟨11, 7, ⟨#[97]⟩⟩, ⟨11, 7, ⟨#[98]⟩⟩] _ 0 _ _ _ _ _ HRD'.out (SRow.new (Nat.zero_le _) hpk HN3.out rfl (by simp [maxLen])) (by simp)).mono ?_
  rintro x w13 ⟨rfl, hb13⟩
  have hdd : decide ([(⟨11, 7, ⟨#[97]⟩⟩ : Hp), ⟨11, 7, ⟨#[98]⟩⟩] = [⟨11, 7, ⟨#[97]⟩⟩, ⟨11, 7, ⟨#[98]⟩⟩]) = true := decide_eq_true rfl
  rw [hdd]; clear hdd
  have HRA'' := Lib.hid (HRA'.out.below hb13); clear HRA'; have HRA' := HRA''; clear HRA''
  have HRD'' := Lib.hid (HRD'.out.below hb13); clear HRD'; have HRD' := HRD''; clear HRD''
  have HRS'' := Lib.hid (HRS'.out.below hb13); clear HRS'; have HRS' := HRS''; clear HRS''
  have HO'' := Lib.hid (HO'.out.below hb13); clear HO'; have HO' := HO''; clear HO''
  have HOW' := Lib.hid (bblock hb13 HOW.out); clear HOW; have HOW := HOW'; clear HOW'
  have HAK2' := Lib.hid (bblock hb13 HAK2.out); clear HAK2; have HAK2 := HAK2'; clear HAK2'
  have HRB2' := Lib.hid (bblock hb13 HRB2.out); clear HRB2; have HRB2 := HRB2'; clear HRB2'
  clear hb13 HN3
  have lto := blk_lt HOW.out
  obtain ⟨⟨k0, k1, k2, k3, k4⟩, -⟩ := cells5 HOW.out
  go_wp2_with fail
  clear k0 k1 k2 k3 k4
  have HN4 := Lib.hid (alloc_new w13 (.cells #[.int .i64 1, .int .i64 10, .int .i64 1, .int .i64 10, .int .i64 0] 52))
  have HRA'' := Lib.hid (HRA'.out.below ((Below.refl w13.heap.size w13).alloc (Nat.le_refl _) (.cells #[.int .i64 1, .int .i64 10, .int .i64 1, .int .i64 10, .int .i64 0] 52))); clear HRA'; have HRA' := HRA''; clear HRA''
  have HRD'' := Lib.hid (HRD'.out.below ((Below.refl w13.heap.size w13).alloc (Nat.le_refl _) (.cells #[.int .i64 1, .int .i64 10, .int .i64 1, .int .i64 10, .int .i64 0] 52))); clear HRD'; have HRD' := HRD''; clear HRD''
  have HRS'' := Lib.hid (HRS'.out.below ((Below.refl w13.heap.size w13).alloc (Nat.le_refl _) (.cells #[.int .i64 1, .int .i64 10, .int .i64 1, .int .i64 10, .int .i64 0] 52))); clear HRS'; have HRS' := HRS''; clear HRS''
  have HO'' := Lib.hid (HO'.out.below ((Below.refl w13.heap.size w13).alloc (Nat.le_refl _) (.cells #[.int .i64 1, .int .i64 10, .int .i64 1, .int .i64 10, .int .i64 0] 52))); clear HO'; have HO' := HO''; clear HO''
  have HOW' := Lib.hid (bblock ((Below.refl w13.heap.size w13).alloc (Nat.le_refl _) (.cells #[.int .i64 1, .int .i64 10, .int .i64 1, .int .i64 10, .int .i64 0] 52)) HOW.out); clear HOW; have HOW := HOW'; clear HOW'
  have HAK2' := Lib.hid (bblock ((Below.refl w13.heap.size w13).alloc (Nat.le_refl _) (.cells #[.int .i64 1, .int .i64 10, .int .i64 1, .int .i64 10, .int .i64 0] 52)) HAK2.out); clear HAK2; have HAK2 := HAK2'; clear HAK2'
  have HRB2' := Lib.hid (bblock ((Below.refl w13.heap.size w13).alloc (Nat.le_refl _) (.cells #[.int .i64 1, .int .i64 10, .int .i64 1, .int .i64 10, .int .i64 0] 52)) HRB2.out); clear HRB2; have HRB2 := HRB2'; clear HRB2'
  refine (sameArps_any [⟨1, 10, 1, 10, 0⟩] [⟨1, 10, 1, 10, 0⟩] _ 0 _ _ _ _ _ HRS'.out (mrow_one (a := ⟨1, 10, 1, 10, 0⟩) (Nat.zero_le _) HN4.out) (by simp)).mono ?_
  rintro x w14 ⟨rfl, hb14⟩
  have hdd : decide ([(⟨1, 10, 1, 10, 0⟩ : Am)] = [⟨1, 10, 1, 10, 0⟩]) = true := by decide
  rw [hdd]; clear hdd
  have HRA'' := Lib.hid (HRA'.out.below hb14); clear HRA'; have HRA' := HRA''; clear HRA''
  have HRD'' := Lib.hid (HRD'.out.below hb14); clear HRD'; have HRD' := HRD''; clear HRD''
  have HRS'' := Lib.hid (HRS'.out.below hb14); clear HRS'; have HRS' := HRS''; clear HRS''
  have HO'' := Lib.hid (HO'.out.below hb14); clear HO'; have HO' := HO''; clear HO''
  have HOW' := Lib.hid (bblock hb14 HOW.out); clear HOW; have HOW := HOW'; clear HOW'
  have HAK2' := Lib.hid (bblock hb14 HAK2.out); clear HAK2; have HAK2 := HAK2'; clear HAK2'
  have HRB2' := Lib.hid (bblock hb14 HRB2.out); clear HRB2; have HRB2 := HRB2'; clear HRB2'
  clear hb14 HN4
  have ltk := blk_lt HAK2.out; have ltr := blk_lt HRB2.out
  obtain ⟨⟨k0, k1, k2, k3, k4⟩, -⟩ := cells5 HAK2.out
  obtain ⟨⟨r0, r1, r2, r3, r4⟩, -⟩ := cells5 HRB2.out
  have heq := eqAm ⟨1, 10, 1, 11, 0⟩ ⟨1, 10, 1, 11, 0⟩
  rw [show amEqB ⟨1, 10, 1, 11, 0⟩ ⟨1, 10, 1, 11, 0⟩ = true from rfl] at heq
  have hs13 := HSS.out
  go_wp2_with fail
  go_ret
  exact ⟨rfl, HO'.out.bel⟩
end Go.Proofs.YtmgjcjacoegocaaDoor.Ar
