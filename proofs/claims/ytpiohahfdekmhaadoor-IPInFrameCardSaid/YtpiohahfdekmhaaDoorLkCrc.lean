/-
  The contract of wire.CRC32: it returns the sum that 'crc' gives; nothing that was there is changed.
-/
import Derived.Test.YtpiohahfdekmhaaDoorLkCrc0
import Derived.Test.YtpiohahfdekmhaaDoorRows
import Derived.WalkKit
namespace Go.Proofs.YtpiohahfdekmhaaDoor.Lk
set_option maxRecDepth 100000
open Go.RowKit Go.Proofs.YtpiohahfdekmhaaDoor.Wire

theorem bits_not32 (y : Nat) (h : y < 4294967296) : bits .xor .u32 IntKind.u32.max (y : Int) = ((4294967295 - y : Nat) : Int) := by
  unfold bits
  show IntKind.u32.wrap ((BitVec.ofInt 32 4294967295 ^^^ BitVec.ofInt 32 (y : Int)).toNat : Int) = _
  rw [show BitVec.ofInt 32 4294967295 = BitVec.allOnes 32 from by decide, BitVec.allOnes_xor, BitVec.toNat_not, ofInt_toNat32 y h]
  exact wrap_u32 _ (by omega) (by omega)
def regC (r : Nat) : Obj := .cells #[.int .u32 (r : Int)] 87
set_option maxHeartbeats 2000000 in
theorem feed_any (R r : Nat) (b : UInt8) (w : World) (hr : r < 4294967296) (h : w.heap[R]? = some (regC r)) :
    Calls Tryd.prog 35 #[.int .u8 (b.toNat : Int), .pointer (some ⟨R, 0, none⟩)] w fun e w' => e = .returned (.tuple #[]) ∧ w'.heap[R]? = some (regC (crcFeed r b)) ∧ w.grownBy w' (some R) := by
  have hb := b.toNat_lt
  have hx := bits_xor32 r b.toNat hr (by omega)
  have hin := crcIn_lt r b hr
  have HH := Lib.hid h; clear h
  have c0 := cell_of_box HH.out
  obtain ⟨c0, z0⟩ := c0
  have lt := blk_lt HH.out
  have HF : Hid (crcFeed r b = crcBits 8 (r ^^^ b.toNat)) := Lib.hid rfl
  go_enter Tryd.func35, Tryd.ntmps35
  go_wp2_with fail
  have HH1 := cells_eq (b := #[.int .u32 ((r ^^^ b.toNat : Nat) : Int)]) (block_setCell (k := 0) (v := .int .u32 ((r ^^^ b.toNat : Nat) : Int)) HH.out) rfl
  have HG1 := only_set (p := ⟨R, 0, none⟩) (only_refl w R) (.inl rfl) (.int .u32 ((r ^^^ b.toNat : Nat) : Int))
  clear c0 z0 hx
  generalize World.setCell w ⟨R, 0, none⟩ (.int .u32 ((r ^^^ b.toNat : Nat) : Int)) = w1 at *
  generalize r ^^^ b.toNat = x at *
  clear HH
  go_loopw [8] (fun i wr => ∃ k : Nat, k ≤ 8 ∧ i = .int .i64 (k : Int) ∧ wr.heap[R]? = some (regC (crcBits k x)) ∧ w.grownBy wr (some R)) (fun i _ => 8 - (intOf i).toNat)
  case atStart => exact ⟨0, by omega, rfl, HH1, HG1⟩
  case round =>
    clear HH1 HG1
    obtain ⟨k, hk, rfl, hh, hg⟩ := hrel
    have hxl := crcBits_lt k x hin
    have HS : Hid (crcBits (k + 1) x = crcBit (crcBits k x)) := Lib.hid rfl
    have HH := Lib.hid hh; have HG := Lib.hid hg; clear hh hg
    by_cases hlt : k < 8
    · have hkl : decide ((k : Int) < 8) = true := by simp; omega
      generalize crcBits k x = y at *
      have ha := bits_and32 y hxl
      have hy2 : y / 2 < 4294967296 := by omega
      have hx : bits .xor .u32 ((y / 2 : Nat) : Int) 3988292384 = ((y / 2 ^^^ 3988292384 : Nat) : Int) := bits_xor32 (y / 2) 3988292384 (by omega) (by omega)
      obtain ⟨c0, z0⟩ := cell_of_box HH.out
      by_cases ho : y % 2 = 1
      · have HB : Hid (crcBit y = (y / 2) ^^^ 3988292384) := Lib.hid (by unfold crcBit; rw [if_pos ho])
        rw [ho] at ha
        clear ho
        go_wp2_with fail
        have ey : ((y : Int) / 2) = ((y / 2 : Nat) : Int) := by omega
        rw [ey, hx]
        refine ⟨⟨k + 1, by omega, by go_num, ?_, only_set (only_set HG.out (.inl rfl) _) (.inl rfl) _⟩, by simp [intOf]; omega⟩
        rw [HS.out, HB.out]
        exact cells_eq (block_setCell (k := 0) (block_setCell (k := 0) HH.out)) rfl
      · have ho' : y % 2 = 0 := by omega
        have HB : Hid (crcBit y = y / 2) := Lib.hid (by unfold crcBit; rw [if_neg ho])
        rw [ho'] at ha
        clear ho ho'
        go_wp2_with fail
        have ey : ((y : Int) / 2) = ((y / 2 : Nat) : Int) := by omega
        rw [ey]
        refine ⟨⟨k + 1, by omega, by go_num, ?_, only_set HG.out (.inl rfl) _⟩, by simp [intOf]; omega⟩
        rw [HS.out, HB.out]
        exact cells_eq (block_setCell (k := 0) HH.out) rfl
    · obtain rfl : k = 8 := by omega
      go_wp2_with fail
      go_end0
      exact ⟨rfl, by rw [HF.out]; exact HH.out, HG.out⟩

set_option maxHeartbeats 2000000 in
theorem crc_any (s : ByteArray) (w : World) (hs : s.size ≤ 9223372036854775807) :
    Calls Tryd.prog 19 #[.string s] w fun e w' => e = .returned (.int .i64 (crc s.data.toList : Int)) ∧ Below w.heap.size w w' := by
  have H0 := Lib.hid (alloc_new w (.cells #[.int .u32 4294967295] 87))
  have HB := below_alloc (o := .cells #[.int .u32 4294967295] 87) (Below.refl w.heap.size w)
  have h00 : crcReg (s.data.toList.take 0) = 4294967295 := by rw [List.take_zero]; unfold crcReg; rw [List.foldl_nil]
  have HC0 : Hid (regC (crcReg (s.data.toList.take 0)) = .cells #[.int .u32 4294967295] 87) := Lib.hid (by rw [h00]; unfold regC; simp)
  clear h00
  have hlen : s.data.toList.length = s.size := rfl
  have HLen := Lib.hid hlen; clear hlen
  go_enter Tryd.func19, Tryd.ntmps19
  go_wp2_with fail
  go_loopw [9] (fun i wr => ∃ k : Nat, k ≤ s.size ∧ i = .int .i64 (k : Int) ∧ wr.heap[w.heap.size]? = some (regC (crcReg (s.data.toList.take k))) ∧ Below w.heap.size w wr) (fun i _ => s.size - (intOf i).toNat)
  case atStart => exact ⟨0, by omega, rfl, by rw [HC0.out]; exact H0.out, HB⟩
  case round =>
    clear HB H0 HC0
    obtain ⟨k, hk, rfl, hh, hb⟩ := hrel
    have hr := crcReg_lt (s.data.toList.take k)
    have HH := Lib.hid hh; clear hh
    by_cases hlt : k < s.size
    · have hkl : decide ((k : Int) < (s.size : Int)) = true := by simp; omega
      have HS : Hid (crcReg (s.data.toList.take (k + 1)) = crcFeed (crcReg (s.data.toList.take k)) s[k]) := Lib.hid (by
        rw [List.take_add_one, List.getElem?_eq_getElem (by rw [HLen.out]; exact hlt)]
        exact crcReg_snoc _ _)
      have HF := Lib.hid (feed_any w.heap.size (crcReg (s.data.toList.take k)) s[k] wr hr HH.out)
      generalize crcReg (s.data.toList.take k) = y at *
      go_wp2_with fail
      refine HF.out.mono ?_
      rintro e w2 ⟨rfl, h2, hg⟩
      have HB2 := below_only hb hg (Nat.le_refl _)
      go_wp2_with fail
      refine ⟨⟨k + 1, by omega, by go_num, by rw [HS.out]; exact h2, HB2⟩, by simp [intOf]; omega⟩
    · obtain rfl : k = s.size := by omega
      have HE : Hid (s.data.toList.take s.size = s.data.toList) := Lib.hid (List.take_of_length_le (by rw [HLen.out]; exact Nat.le_refl _))
      have HC : Hid (crc s.data.toList = 4294967295 - crcReg (s.data.toList.take s.size)) := Lib.hid (by rw [HE.out]; rfl)
      generalize crcReg (s.data.toList.take s.size) = y at *
      have hx := bits_not32 y hr
      obtain ⟨c0, z0⟩ := cell_of_box HH.out
      go_wp2_with fail
      go_ret
      exact ⟨ret_int (by rw [HC.out]; unfold wrap64; omega), hb⟩
end Go.Proofs.YtpiohahfdekmhaaDoor.Lk
