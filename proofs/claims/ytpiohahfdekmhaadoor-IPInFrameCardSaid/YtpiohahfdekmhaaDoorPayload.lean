/-
  The contracts of the laws' helpers: Payload and pick.
-/
import Derived.Test.YtpiohahfdekmhaaDoorWire
import Derived.Laws.MakeOwn
import Derived.Test.YtpiohahfdekmhaaDoorBase0
import Derived.Deep.QuietTactic
namespace Go.Proofs.YtpiohahfdekmhaaDoor.Gen
set_option maxRecDepth 100000
open Go.RowKit Go.Proofs.YtpiohahfdekmhaaDoor.Wire

def payAt (s : ByteArray) (i : Nat) : UInt8 := if s.size = 0 then UInt8.ofNat i else s.data.toList.getD (i % s.size) 0 + UInt8.ofNat (i / s.size)
def payload (s : ByteArray) (n : Nat) : List UInt8 := (List.range n).map (payAt s)
theorem payload_length (s : ByteArray) (n : Nat) : (payload s n).length = n := by simp [payload]
def rowOf (s : ByteArray) (n k : Nat) : Array Value := ((List.range n).map fun j => if j < k then Value.int .u8 ((payAt s j).toNat : Int) else Value.int .u8 0).toArray
theorem rowOf_size (s : ByteArray) (n k : Nat) : (rowOf s n k).size = n := by simp [rowOf]
theorem rowOf_at (s : ByteArray) (n k j : Nat) (h : j < n) : (rowOf s n k)[j]? = some (if j < k then Value.int .u8 ((payAt s j).toNat : Int) else Value.int .u8 0) := by
  simp [rowOf, h]
theorem rowOf_succ (s : ByteArray) (n k : Nat) : (rowOf s n k).setIfInBounds k (Value.int .u8 ((payAt s k).toNat : Int)) = rowOf s n (k + 1) := by
  apply Array.ext
  · simp [rowOf]
  · intro i h1 h2
    have hi : i < n := by simpa [rowOf] using h2
    rw [Array.getElem_setIfInBounds (by simpa [rowOf] using hi)]
    simp only [rowOf, List.getElem_toArray, List.getElem_map, List.getElem_range]
    by_cases c : k = i
    · subst c; simp
    · rw [if_neg c]
      by_cases c2 : i < k
      · rw [if_pos c2, if_pos (by omega)]
      · rw [if_neg c2, if_neg (by omega)]
theorem infoU8 : (Tryd.prog.info? 5).map (fun i => (i.zero, i.size, i.bytes)) = some (some (.int .u8 0), 1, 1) := by kernel_rfl

theorem make_zero (s : ByteArray) (n : Nat) : madeCells (Value.int .u8 0).cells (n * 1) = rowOf s n 0 := by
  apply Array.ext
  · simp [rowOf, madeCells, Value.cells]
  · intro i h1 h2
    simp only [rowOf, madeCells, Value.cells]
    simp [Nat.mod_one]

/-- what the round stores where s is not empty -/
theorem pay_step (s : ByteArray) (k : Nat) (h : k % s.size < s.size) : ((payAt s k).toNat : Int) = ((s[k % s.size].toNat : Int) + (k : Int) / (s.size : Int)) % 256 := by
  have hne : ¬ s.size = 0 := by omega
  have e : s.data.toList.getD (k % s.size) 0 = s[k % s.size] := getD_lt s _ h
  unfold payAt
  rw [if_neg hne, e]
  simp [UInt8.toNat_add]
theorem pay_zero (s : ByteArray) (k : Nat) (h : s.size = 0) : ((payAt s k).toNat : Int) = (k : Int) % 256 := by
  unfold payAt
  rw [if_pos h]
  simp

theorem conv_row {P : Program} (W : World) (s : ByteArray) (n B : Nat) (h : W.heap[B]? = some (.cells (rowOf s n n) 5 (0, 0))) (hu : P.underlying 39 = some (.slice 5)) (hu2 : P.underlying 5 = some (.int .u8)) (hu3 : P.underlying 9 = some .string) :
    (convert 39 9 (.slice (some ⟨B, 0, none⟩) n n)).run P W = .ok (.string ⟨(payload s n).toArray⟩) W := by
  have hc : ∀ i, i < n → W.cell? ⟨B, 0 + i, none⟩ = some (.int .u8 (((payload s n).map fun b => (b.toNat : Int)).getD i 0)) := by
    intro i hi
    rw [Nat.zero_add]
    obtain ⟨c, _⟩ := cell_of_block h (rowOf_at s n n i hi)
    rw [c, if_pos hi]
    simp [payload, hi]
  rw [run_convert_bytes_arg W 39 5 hu hu2 B 0 n n ((payload s n).map fun b => (b.toNat : Int)) (by simp [payload]) hc 9 hu3]
  have e : strOfNums ((payload s n).map fun b => (b.toNat : Int)) = ⟨(payload s n).toArray⟩ := by
    unfold strOfNums
    have e2 : ((payload s n).map fun b => (b.toNat : Int)).map (fun n => UInt8.ofNat n.toNat) = payload s n := by
      rw [List.map_map]
      conv => rhs; rw [← List.map_id (payload s n)]
      apply List.map_congr_left
      intro b _
      simp
    rw [e2]
  rw [e]

set_option maxHeartbeats 1000000 in
theorem payload_any (s : ByteArray) (n : Int) (w : World) (h0 : 0 ≤ n) (h1 : n ≤ 1000000) (hs : s.size ≤ 9223372036854775807) :
    Calls Tryd.prog 12 #[.string s, .int .i64 n] w fun e w' => e = .returned (.string ⟨(payload s n.toNat).toArray⟩) ∧ Below w.heap.size w w' := by
  obtain ⟨n, rfl⟩ := Int.eq_ofNat_of_zero_le h0
  rw [Int.toNat_natCast]
  obtain ⟨i0, hi, hz0, hz1, hz2⟩ := info_parts infoU8
  have hmk := run_make (P := Tryd.prog) w 39 5 i0 (.int .u8 0) Tryd.underlying39 hi hz0 .i64 .i64 n n h0 (Int.le_refl _) (by rw [hz2]; omega) (by omega)
  rw [hz1, Int.toNat_natCast, make_zero s n] at hmk
  clear hi hz0 hz1 hz2
  have hrow : (w.alloc (.cells (rowOf s n 0) 5)).heap[w.heap.size]? = some (.cells (rowOf s n 0) 5 (0, 0)) := alloc_new w _
  have hB0 : Below w.heap.size w (w.alloc (.cells (rowOf s n 0) 5)) := (Below.refl _ _).alloc (Nat.le_refl _) _
  have Hrow := Lib.hid hrow
  clear hrow
  go_enter Tryd.func12, Tryd.ntmps12
  go_wp2
  go_loopw [6] (fun i wr => ∃ k : Nat, k ≤ n ∧ i = .int .i64 (k : Int) ∧ wr.heap[w.heap.size]? = some (.cells (rowOf s n k) 5 (0, 0)) ∧ Below w.heap.size w wr) (fun i wr => n - (intOf i).toNat)
  case atStart => exact ⟨0, by omega, rfl, Hrow.out, hB0⟩
  case round =>
    obtain ⟨k, hk, rfl, hrow, hB⟩ := hrel
    clear hmk
    have Hr := Lib.hid hrow
    clear hrow
    by_cases hlt : k < n
    · obtain ⟨c0, f0⟩ := cell_of_block Hr.out (rowOf_at s n k k hlt)
      rw [if_neg (Nat.lt_irrefl _)] at c0
      by_cases he : s.size = 0
      · have he' : ¬ (0 : Int) < (s.size : Int) := by omega
        have He := Lib.hid he
        clear he
        go_wp2
        refine ⟨⟨k + 1, by omega, by go_num, ?_, hB.setCell (p := ⟨w.heap.size, k, none⟩) (Nat.le_refl _) _⟩, by simp [intOf]; omega⟩
        rw [← rowOf_succ, pay_zero s k He.out]
        exact block_setCell Hr.out
      · have he' : (0 : Int) < (s.size : Int) := by omega
        have hm : k % s.size < s.size := Nat.mod_lt _ (by omega)
        have hm1 : (0 : Int) ≤ (k : Int) % (s.size : Int) := Int.emod_nonneg _ (by omega)
        have hm2 : (k : Int) % (s.size : Int) < (s.size : Int) := Int.emod_lt_of_pos _ he'
        have hd1 : (0 : Int) ≤ (k : Int) / (s.size : Int) := Int.ediv_nonneg (by omega) (by omega)
        have hd2 : (k : Int) / (s.size : Int) ≤ 1000000 := by
          have : k / s.size ≤ k := Nat.div_le_self _ _
          rw [← Int.natCast_ediv]
          generalize k / s.size = q at *
          omega
        have hbd := u8_bd s[k % s.size]
        have c1 : (wr.setCell ⟨w.heap.size, k, none⟩ (.int .u8 ((k : Int) % 256))).cell? ⟨w.heap.size, k, none⟩ = some (.int .u8 ((k : Int) % 256)) := World.cell?_setCell_same' _ _ _ (by rw [c0]; rfl)
        clear he
        go_wp2
        go_region
        go_wp2
        have Hp := Lib.hid (pay_step s k hm)
        refine ⟨⟨k + 1, by omega, by go_num, ?_, ((hB.setCell (p := ⟨w.heap.size, k, none⟩) (Nat.le_refl _) _).setCell (p := ⟨w.heap.size, k, none⟩) (Nat.le_refl _) _).drew⟩, by simp [intOf]; omega⟩
        rw [← rowOf_succ, Hp.out, ← set_set _ k (.int .u8 ((k : Int) % 256))]
        exact block_setCell (block_setCell Hr.out)
    · have hk' : n = k := by omega
      have Hk := Lib.hid hk'
      clear hk'
      have hcv := conv_row (P := Tryd.prog) wr s n w.heap.size (by have := Hr.out; rw [← Hk.out] at this; exact this) Tryd.underlying39 Tryd.underlying5 Tryd.underlying9
      go_wp2
      go_ret
      exact ⟨rfl, hB⟩

def pick (c n : Int) : Int := if c < 0 then (-(c + 1)) % n else c % n
theorem pick_lt (c n : Int) (h : 0 < n) : 0 ≤ pick c n ∧ pick c n < n := by
  unfold pick; split
  · exact ⟨Int.emod_nonneg _ (by omega), Int.emod_lt_of_pos _ h⟩
  · exact ⟨Int.emod_nonneg _ (by omega), Int.emod_lt_of_pos _ h⟩
end Go.Proofs.YtpiohahfdekmhaaDoor.Gen
