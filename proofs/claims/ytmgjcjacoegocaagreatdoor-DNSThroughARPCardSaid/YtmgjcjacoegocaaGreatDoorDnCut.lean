/-
  The contract of strings.Cut at a dot.
-/
import Derived.Test.YtmgjcjacoegocaaGreatDoorDn0
import Derived.Test.YtmgjcjacoegocaaGreatDoorBase1
import Derived.Test.YtmgjcjacoegocaaGreatDoorShelf
import Derived.WalkKit
import Derived.Deep.QuietTactic
import Derived.BigQuiet
namespace Go.Proofs.YtmgjcjacoegocaaGreatDoor.Dn
set_option maxRecDepth 100000
open Go.RowKit Go.Proofs.YtmgjcjacoegocaaGreatDoor.Wire

theorem index_no (c : UInt8) : ∀ l : List UInt8, c ∉ l → Lib.indexByte l c = -1
  | [], _ => rfl
  | x :: l, h => by
    have h1 : ¬ x = c := fun e => h (by simp [e])
    have ih := index_no c l (fun q => h (List.mem_cons_of_mem _ q))
    simp [Lib.indexByte, h1, ih]
theorem index_yes (c : UInt8) (b : List UInt8) : ∀ a : List UInt8, c ∉ a → Lib.indexByte (a ++ c :: b) c = a.length
  | [], _ => by simp [Lib.indexByte]
  | x :: l, h => by
    have h1 : ¬ x = c := fun e => h (by simp [e])
    have ih := index_yes c b l (fun q => h (List.mem_cons_of_mem _ q))
    simp [Lib.indexByte, h1, ih]
set_option maxHeartbeats 1000000 in
theorem scut_no (s : ByteArray) (w : World) (h : (46 : UInt8) ∉ s.data.toList) :
    Calls Tryz.prog 125 #[.string s, .string ⟨#[46]⟩] w fun e w' => e = .returned (.tuple #[.string s, .string ⟨#[]⟩, .bool false]) ∧ Below w.heap.size w w' := by
  have HI := Lib.hid fun W => Tryz.stringslite_Index_one s 46 W
  rw [index_no 46 _ h] at HI
  go_enter Tryz.func125, Tryz.ntmps125
  go_wp2_with fail
  refine (HI.out _).mono ?_
  rintro e w' ⟨rfl, rfl⟩
  go_wp2_with fail
  go_ret3
  exact ⟨rfl, Below.refl _ _⟩
set_option maxHeartbeats 1000000 in
theorem scut_yes (a b : List UInt8) (w : World) (h : (46 : UInt8) ∉ a) (hl : (a ++ 46 :: b).length ≤ 1000000) :
    Calls Tryz.prog 125 #[.string ⟨(a ++ 46 :: b).toArray⟩, .string ⟨#[46]⟩] w fun e w' => e = .returned (.tuple #[.string ⟨a.toArray⟩, .string ⟨b.toArray⟩, .bool true]) ∧ Below w.heap.size w w' := by
  have HI : Hid (∀ W, Calls Tryz.prog 132 #[.string ⟨(a ++ 46 :: b).toArray⟩, .string ⟨#[46]⟩] W fun e w' => e = .returned (.int .i64 (a.length : Int)) ∧ w' = W) := Lib.hid fun W => by
    have h1 := Tryz.stringslite_Index_one ⟨(a ++ 46 :: b).toArray⟩ 46 W
    rw [show Lib.indexByte (⟨(a ++ 46 :: b).toArray⟩ : ByteArray).data.toList 46 = (a.length : Int) from index_yes 46 b a h] at h1
    exact h1
  have e1 : (⟨(a ++ 46 :: b).toArray⟩ : ByteArray).extract 0 a.length = ⟨a.toArray⟩ := by
    apply ByteArray.ext; apply Array.ext'; rw [ByteArray.data_extract]; simp
  have e2 : (⟨(a ++ 46 :: b).toArray⟩ : ByteArray).extract (a.length + 1) (⟨(a ++ 46 :: b).toArray⟩ : ByteArray).size = ⟨b.toArray⟩ := by
    apply ByteArray.ext; apply Array.ext'; rw [ByteArray.data_extract]
    have : (⟨(a ++ 46 :: b).toArray⟩ : ByteArray).size = (a ++ 46 :: b).length := rfl
    rw [this]; simp
    exact List.take_of_length_le (by omega)
  have hs : (⟨(a ++ 46 :: b).toArray⟩ : ByteArray).size = a.length + (b.length + 1) := by rw [sz]; simp
  generalize (⟨(a ++ 46 :: b).toArray⟩ : ByteArray) = s at *
  have b1 : (0 : Int) ≤ (a.length : Int) := by omega
  have b2 : (a.length : Int) ≤ (s.size : Int) := by omega
  have b3 : (0 : Int) ≤ (a.length : Int) + 1 := by omega
  have b4 : (a.length : Int) + 1 ≤ (s.size : Int) := by omega
  have b5 : IntKind.i64.wrap ((a.length : Int) + 1) = (a.length : Int) + 1 := IntWalk.i64_in _ (by rw [List.length_append] at hl; omega)
  have b6 : ((a.length : Int) + 1).toNat = a.length + 1 := by omega
  have b7 : decide ((0 : Int) ≤ (a.length : Int)) = true := by simp
  have H1 := Lib.hid e1; have H2 := Lib.hid e2; have HS := Lib.hid hs
  clear e1 e2 hs
  go_enter Tryz.func125, Tryz.ntmps125
  go_wp2_with fail
  refine (HI.out _).mono ?_
  rintro e w' ⟨rfl, rfl⟩
  go_wp2_with fail
  go_quiet (fail)
  go_wp2_with fail
  go_ret3
  have hb := Below.refl w'.heap.size w'
  exact ⟨by rw [← H1.out, ← H2.out]; rfl, ⟨hb.os, hb.tape, hb.output, hb.size, hb.block⟩⟩
theorem cut_no (s : ByteArray) (w : World) (h : (46 : UInt8) ∉ s.data.toList) :
    Calls Tryz.prog 109 #[.string s, .string ⟨#[46]⟩] w fun e w' => e = .returned (.tuple #[.string s, .string ⟨#[]⟩, .bool false]) ∧ Below w.heap.size w w' := by
  have HC := Lib.hid fun W => scut_no s W h
  go_enter Tryz.func109, Tryz.ntmps109
  go_wp2_with fail
  refine (HC.out _).mono ?_
  rintro e w' ⟨rfl, hb⟩
  go_wp2_with fail
  go_ret3
  exact ⟨rfl, hb⟩
theorem cut_yes (a b : List UInt8) (w : World) (h : (46 : UInt8) ∉ a) (hl : (a ++ 46 :: b).length ≤ 1000000) :
    Calls Tryz.prog 109 #[.string ⟨(a ++ 46 :: b).toArray⟩, .string ⟨#[46]⟩] w fun e w' => e = .returned (.tuple #[.string ⟨a.toArray⟩, .string ⟨b.toArray⟩, .bool true]) ∧ Below w.heap.size w w' := by
  have HC := Lib.hid fun W => scut_yes a b W h hl
  generalize (⟨(a ++ 46 :: b).toArray⟩ : ByteArray) = s at *
  go_enter Tryz.func109, Tryz.ntmps109
  go_wp2_with fail
  refine (HC.out _).mono ?_
  rintro e w' ⟨rfl, hb⟩
  go_wp2_with fail
  go_ret3
  exact ⟨rfl, hb⟩
end Go.Proofs.YtmgjcjacoegocaaGreatDoor.Dn
