/-
  The generators of the laws of chapter 07: Bytes.
-/
import Derived.Test.YtmeldgnjgogacaaReLaw0
import Derived.Laws.OwnMore
namespace Go.Proofs.Ytmeldgnjgogacaa.Re
set_option maxRecDepth 100000
open Go.RowKit Go.Proofs.Ytmeldgnjgogacaa.Wire
open Go.Proofs.Ytmeldgnjgogacaa.Ip (Pk vlenB)

def byteAt (j : Nat) : UInt8 := UInt8.ofNat (97 + j * 7 % 26)
theorem byteAt_nat (j : Nat) : ((byteAt j).toNat : Int) = 97 + ((j : Int) * 7) % 26 := by
  unfold byteAt
  rw [UInt8.toNat_ofNat']
  have : j * 7 % 26 < 26 := Nat.mod_lt _ (by omega)
  rw [Nat.mod_eq_of_lt (by omega)]
  omega
def bytesL (o n : Nat) : List UInt8 := (List.range n).map fun i => byteAt (o + i)
def bytesK (o n k : Nat) : List UInt8 := (List.range n).map fun i => if i < k then byteAt (o + i) else 0
theorem bytesL_length (o n : Nat) : (bytesL o n).length = n := by simp [bytesL]
theorem bytesK_length (o n k : Nat) : (bytesK o n k).length = n := by simp [bytesK]
theorem bytesK_zero (o n : Nat) : bytesK o n 0 = List.replicate n 0 := by
  apply List.ext_getElem
  · simp [bytesK]
  · intro i h1 h2; simp [bytesK]
theorem bytesK_full (o n : Nat) : bytesK o n n = bytesL o n := by
  apply List.map_congr_left
  intro i hi
  rw [if_pos (List.mem_range.1 hi)]
theorem bytesK_succ (o n k : Nat) : bytesK o n (k + 1) = (bytesK o n k).set k (byteAt (o + k)) := by
  apply List.ext_getElem
  · simp [bytesK]
  · intro i h1 h2
    simp only [bytesK, List.getElem_map, List.getElem_range, List.getElem_set]
    by_cases hik : k = i
    · subst hik; simp
    · by_cases hlt : i < k
      · rw [if_pos (by omega), if_neg hik, if_pos hlt]
      · rw [if_neg (by omega), if_neg hik, if_neg hlt]
theorem madeB (n : Nat) : (madeCells (Value.int .u8 0).cells (n * 1)).toList = byC (List.replicate n 0) := by
  rw [Nat.mul_one]
  have : madeCells (Value.int .u8 0).cells n = (List.replicate n (Value.int .u8 0)).toArray := by
    unfold madeCells
    apply Array.ext
    · simp
    · intro i h1 h2
      simp [Value.cells, Nat.mod_one]
  rw [this]; simp [byC]
set_option maxHeartbeats 4000000 in
theorem bytes_any (o n : Nat) (w : World) (ho : o ≤ 1000) (hn : n ≤ 1000) : Calls Try.prog 32 #[.int .i64 (o : Int), .int .i64 (n : Int)] w fun x w' => x = .returned (.string ⟨(bytesL o n).toArray⟩) ∧ Below w.heap.size w w' := by
  obtain ⟨i0, hi, hz0, hz1, hz2⟩ := info_parts info_u8
  obtain ⟨w1, hmk, hown, hg⟩ := run_makeSlice_full (P := Try.prog) w 0 41 5 i0 (.int .u8 0) 1 Try.underlying41 hi hz0 hz1 .i64 .i64 n (by omega) (by rw [hz2]; omega) (by unfold maxLen; omega) (Nat.zero_le _)
  rw [madeB] at hown
  have hS : Sl w1 (.slice (some ⟨w.heap.size, 0, none⟩) n n) 5 (byC (bytesK o n 0)) := by
    rw [bytesK_zero]
    unfold Sl
    have : (byC (List.replicate n 0)).length = n := by simp [byC]
    rw [this]; exact hown
  have HS := Lib.hid hS; have HG := Lib.hid hg; clear hown hS hg hi hz0 hz1 hz2
  have hgB : Below w.heap.size w w1 := ⟨HG.out.os, HG.out.tape, HG.out.output, HG.out.size, fun k hk => HG.out.block k hk (by simp)⟩
  have HB := Lib.hid hgB; clear hgB
  go_enter Try.func32, Try.ntmps32
  go_wp2_with fail
  go_loopw [6] (fun i wr => ∃ k : Nat, k ≤ n ∧ i = .int .i64 (k : Int) ∧ Sl wr (.slice (some ⟨w.heap.size, 0, none⟩) n n) 5 (byC (bytesK o n k)) ∧ Below w.heap.size w wr) (fun i wr => n - (Go.RowKit.intOf i).toNat)
  case atStart => exact ⟨0, Nat.zero_le _, rfl, HS.out, HB.out⟩
  case round =>
    clear hmk
    obtain ⟨k, hk, rfl, hs, hb⟩ := hrel
    have HSr := Lib.hid hs; have HBr := Lib.hid hb; clear hs hb
    by_cases hlt : k < n
    · have hkl : decide ((k : Int) < (n : Int)) = true := by simp; omega
      have hk0 : (0 : Int) ≤ (k : Int) := by omega
      obtain ⟨c1, z1⟩ := HSr.out.cell (k := k) (u := .int .u8 (((bytesK o n k)[k]'(by rw [bytesK_length]; exact hlt)).toNat : Int)) (by unfold byC; rw [List.getElem?_map, List.getElem?_eq_getElem (by rw [bytesK_length]; exact hlt)]; rfl)
      have hv := byteAt_nat (o + k)
      have hV := Lib.hid hv; clear hv
      have hr0 : 0 ≤ ((o : Int) + (k : Int)) * 7 % 26 := Int.emod_nonneg _ (by omega)
      have hr1 : ((o : Int) + (k : Int)) * 7 % 26 < 26 := Int.emod_lt_of_pos _ (by omega)
      go_wp2_with fail
      refine ⟨⟨k + 1, by omega, by go_num, ?_, HBr.out.setCell (p := ⟨w.heap.size, k, none⟩) (Nat.le_refl _) _⟩, by simp [Go.RowKit.intOf]; omega⟩
      have hs := HSr.out.set (k := k) (.int .u8 (97 + ((o : Int) + (k : Int)) * 7 % 26))
      have e : (byC (bytesK o n k)).set k (.int .u8 (97 + ((o : Int) + (k : Int)) * 7 % 26)) = byC (bytesK o n (k + 1)) := by
        rw [bytesK_succ]
        unfold byC
        rw [List.map_set, hV.out, Int.natCast_add]
      rw [e] at hs
      exact hs
    · obtain rfl : k = n := by omega
      have hkl : decide ((k : Int) < (k : Int)) = false := by simp
      have hc := conv_sl HSr.out (bytesK_length o k k).symm
      rw [bytesK_full] at hc
      go_wp2_with fail
      go_ret
      exact ⟨rfl, HBr.out⟩
end Go.Proofs.Ytmeldgnjgogacaa.Re
