/-
  The generators of the laws of chapter 07: parts.
-/
import Derived.Test.YtmeldgnjgogacaaReKeyed
import Derived.Test.YtmeldgnjgogacaaReL15
namespace Go.Proofs.Ytmeldgnjgogacaa.Re
set_option maxRecDepth 100000
open Go.RowKit Go.Proofs.Ytmeldgnjgogacaa.Wire
open Go.Proofs.Ytmeldgnjgogacaa.Ip (Pk vlenB VLen pieceAt count frags count_lt frags_succ frags_length)

def baseP (s : ByteArray) : Pk := { f := 1, t := 2, pr := 6, ttl := 9, id := 77, df := false, mf := false, off := 0, s := s }
def cutN (e : Nat) : Nat := 8 * (1 + e % 9)
def partsL (s : ByteArray) (n : Nat) : List Pk := if s.size ≤ n then [baseP s] else frags (baseP s) n (count (baseP s) n)
theorem prow_blockL {W : World} {g lo : Nat} (l : List Pk) (hlo : lo ≤ g) (h : W.heap[g]? = some (.cells (pkC l).toArray 30 (0, 0))) (hl : l.length ≤ maxLen) : PRow W lo (some ⟨g, 0, none⟩) l.length l :=
  ⟨pkC_length l, .inr ⟨g, l.length, _, rfl, hlo, h, Nat.le_refl _, hl, by simp [pkC_length], by rw [← pkC_length l]; simp⟩⟩
def BaseB (W : World) (g : Nat) : Prop := ∃ (mf : Bool) (off : Int) (u : ByteArray), W.heap[g]? = some (.cells #[.int .i64 1, .int .i64 2, .int .i64 6, .int .i64 9, .int .i64 77, .bool false, .bool mf, .int .i64 off, .string u] 30 (0, 0))
set_option maxHeartbeats 8000000 in
theorem parts_any (s : ByteArray) (e : Nat) (w : World) (hs : s.size ≤ 500) (he : e < 256) :
    Calls Try.prog 22 #[.string s, .int .u8 (e : Int)] w fun x w' => (∃ B c, x = .returned (.slice B (partsL s (cutN e)).length c) ∧ PRow w' w.heap.size B c (partsL s (cutN e))) ∧ Below w.heap.size w w' := by
  have hn : ((cutN e : Nat) : Int) = 8 * (1 + (e : Int) % 9) := by unfold cutN; omega
  have hnb : 8 ≤ cutN e ∧ cutN e ≤ 72 := by unfold cutN; omega
  have hm := Int.emod_nonneg (e : Int) (show (9 : Int) ≠ 0 by omega)
  have hm2 := Int.emod_lt_of_pos (e : Int) (show (0 : Int) < 9 by omega)
  have HN := Lib.hid hn; clear hn
  by_cases hle : s.size ≤ cutN e
  · have d1 : decide ((s.size : Int) ≤ 8 * (1 + (e : Int) % 9)) = true := by rw [← HN.out]; simp; omega
    have HPL : Hid (partsL s (cutN e) = [baseP s]) := Lib.hid (by unfold partsL; rw [if_pos hle])
    rw [HPL.out]
    clear HPL hle
    go_enter Try.func22, Try.ntmps22
    go_wp2_with fail
    go_ret
    exact ⟨⟨some ⟨w.heap.size + 1, 0, none⟩, 1, rfl, prow_blockL [baseP s] (by omega) (alloc_new' _ _ _ (by simp)) (by simp [maxLen])⟩, below_alloc (below_alloc (Below.refl _ _))⟩
  · have d1 : decide ((s.size : Int) ≤ 8 * (1 + (e : Int) % 9)) = false := by rw [← HN.out]; simp; omega
    have HPL : Hid (partsL s (cutN e) = frags (baseP s) (cutN e) (count (baseP s) (cutN e))) := Lib.hid (by unfold partsL; rw [if_neg hle])
    have HB0 : Hid ((w.alloc (.cells #[.int .i64 1, .int .i64 2, .int .i64 6, .int .i64 9, .int .i64 77, .bool false, .bool false, .int .i64 0, .string ⟨#[]⟩] 30)).heap[w.heap.size]? = some (.cells #[.int .i64 1, .int .i64 2, .int .i64 6, .int .i64 9, .int .i64 77, .bool false, .bool false, .int .i64 0, .string ⟨#[]⟩] 30)) := Lib.hid (alloc_new _ _)
    have HBW : Hid (Below w.heap.size w (w.alloc (.cells #[.int .i64 1, .int .i64 2, .int .i64 6, .int .i64 9, .int .i64 77, .bool false, .bool false, .int .i64 0, .string ⟨#[]⟩] 30))) := Lib.hid (below_alloc (Below.refl _ _))
    have HLE := Lib.hid hle; clear hle
    obtain ⟨N, hN⟩ : ∃ N, cutN e = N := ⟨_, rfl⟩
    rw [hN] at HN hnb HPL HLE ⊢
    clear hN
    obtain ⟨i0, hi, hz0, hz1, hz2⟩ := info_parts infoPkA
    have HI := Lib.hid hi; have HZ0 := Lib.hid hz0; have HZ1 := Lib.hid hz1; have HZ2 := Lib.hid hz2
    clear hi hz0 hz1 hz2
    go_enter Try.func22, Try.ntmps22
    go_wp2_with fail
    have hNe := HN.out
    rw [← hNe]
    clear hm hm2 hNe d1
    go_loopw [7, 8] (fun b i wr => ∃ (k : Nat) (B : Option Addr) (c : Nat), k ≤ count (baseP s) N ∧ (∀ j, j < k → N * j < s.size) ∧ i = .int .i64 ((N * k : Nat) : Int) ∧ b = .slice B k c ∧ PRow wr (w.heap.size + 1) B c (frags (baseP s) N k) ∧ BaseB wr w.heap.size ∧ Below w.heap.size w wr) (fun _ i _ => s.size + 100 - (Go.RowKit.intOf i).toNat)
    case atStart => exact ⟨0, none, 0, Nat.zero_le _, fun j hj => absurd hj (Nat.not_lt_zero _), rfl, rfl, ⟨rfl, .inl ⟨rfl, rfl⟩⟩, ⟨_, _, _, HB0.out⟩, HBW.out⟩
    case round =>
      clear HB0 HBW
      obtain ⟨k, B, c, hk, hkj, rfl, rfl, hr, ⟨mf0, off0, u0, hb0⟩, hb⟩ := hrel
      have HR := Lib.hid hr; have HB0 := Lib.hid hb0; have HBW := Lib.hid hb; have HKJ := Lib.hid hkj; clear hr hb0 hb hkj
      have hcl := count_lt (baseP s) N k (by omega)
      have HCL := Lib.hid hcl; clear hcl
      by_cases hlt : N * k < s.size
      · have hkl : decide (((N * k : Nat) : Int) < (s.size : Int)) = true := by simp; omega
        have hk0 : (0 : Int) ≤ ((N * k : Nat) : Int) := by omega
        have hmn : N * k + N ≤ 1000 := by omega
        have qB00 := (cell_of_block (k := 0) HB0.out rfl).1; have zB00 := (cell_of_block (k := 0) HB0.out rfl).2; have qB01 := (cell_of_block (k := 1) HB0.out rfl).1; have zB01 := (cell_of_block (k := 1) HB0.out rfl).2; have qB02 := (cell_of_block (k := 2) HB0.out rfl).1; have zB02 := (cell_of_block (k := 2) HB0.out rfl).2; have qB03 := (cell_of_block (k := 3) HB0.out rfl).1; have zB03 := (cell_of_block (k := 3) HB0.out rfl).2; have qB04 := (cell_of_block (k := 4) HB0.out rfl).1; have zB04 := (cell_of_block (k := 4) HB0.out rfl).2; have qB05 := (cell_of_block (k := 5) HB0.out rfl).1; have zB05 := (cell_of_block (k := 5) HB0.out rfl).2; have qB06 := (cell_of_block (k := 6) HB0.out rfl).1; have zB06 := (cell_of_block (k := 6) HB0.out rfl).2; have qB07 := (cell_of_block (k := 7) HB0.out rfl).1; have zB07 := (cell_of_block (k := 7) HB0.out rfl).2; have qB08 := (cell_of_block (k := 8) HB0.out rfl).1; have zB08 := (cell_of_block (k := 8) HB0.out rfl).2; have lt_B0 := blk_lt HB0.out
        obtain ⟨I, hI⟩ : ∃ I, N * k = I := ⟨_, rfl⟩
        rw [hI] at hkl hk0 hlt hmn ⊢
        have HII := Lib.hid hI; clear hI
        go_upto_region 13 with fail
        have hmin : (if (s.size : Int) < (I : Int) + (N : Int) then (s.size : Int) else (I : Int) + (N : Int)) = ((min (I + N) s.size : Nat) : Int) := by split <;> omega
        rw [hmin, Int.toNat_natCast]
        clear hmin
        obtain ⟨U, hU⟩ : ∃ U, s.extract I (min (I + N) s.size) = U := ⟨_, rfl⟩
        obtain ⟨M, hM⟩ : ∃ M, decide ((I : Int) + (N : Int) < (s.size : Int)) = M := ⟨_, rfl⟩
        rw [hU, hM]
        have HQ : Hid (pieceAt (baseP s) N k = { f := 1, t := 2, pr := 6, ttl := 9, id := 77, df := false, mf := M, off := (I : Int), s := U }) := Lib.hid (by
          unfold pieceAt baseP
          dsimp only
          rw [HII.out, hU, Bool.false_or, ← hM, Int.zero_add]
          congr 1
          exact decide_eq_decide.2 (by omega))
        clear hU hM
        have HB1 := Lib.hid (block_setCell (k := 8) (v := .string U) (block_setCell (k := 6) (v := .bool M) (block_setCell (k := 7) (v := .int .i64 (I : Int)) HB0.out)))
        have HB2 : Hid ((((wr.setCell ⟨w.heap.size, 7, none⟩ (.int .i64 (I : Int))).setCell ⟨w.heap.size, 6, none⟩ (.bool M)).setCell ⟨w.heap.size, 8, none⟩ (.string U)).heap[w.heap.size]? = some (.cells #[.int .i64 1, .int .i64 2, .int .i64 6, .int .i64 9, .int .i64 77, .bool false, .bool M, .int .i64 (I : Int), .string U] 30 (0, 0))) := Lib.hid (cells_eq HB1.out rfl)
        have HBW2 : Hid (Below w.heap.size w (((wr.setCell ⟨w.heap.size, 7, none⟩ (.int .i64 (I : Int))).setCell ⟨w.heap.size, 6, none⟩ (.bool M)).setCell ⟨w.heap.size, 8, none⟩ (.string U))) := Lib.hid (((HBW.out.setCell (p := ⟨w.heap.size, 7, none⟩) (Nat.le_refl _) _).setCell (p := ⟨w.heap.size, 6, none⟩) (Nat.le_refl _) _).setCell (p := ⟨w.heap.size, 8, none⟩) (Nat.le_refl _) _)
        have HR2 : Hid (PRow (((wr.setCell ⟨w.heap.size, 7, none⟩ (.int .i64 (I : Int))).setCell ⟨w.heap.size, 6, none⟩ (.bool M)).setCell ⟨w.heap.size, 8, none⟩ (.string U)) (w.heap.size + 1) B c (frags (baseP s) N k)) := Lib.hid (HR.out.keptK (fun q hq _ => by
          have := (HR.out.bk hq).1
          rw [Below.heap_setCell _ _ _ _ (by show q ≠ w.heap.size; omega), Below.heap_setCell _ _ _ _ (by show q ≠ w.heap.size; omega), Below.heap_setCell _ _ _ _ (by show q ≠ w.heap.size; omega)]))
        clear HB1
        clear qB00 zB00 qB01 zB01 qB02 zB02 qB03 zB03 qB04 zB04 qB05 zB05 qB06 zB06 qB07 zB07 qB08 zB08 lt_B0
        generalize (((wr.setCell ⟨w.heap.size, 7, none⟩ (.int .i64 (I : Int))).setCell ⟨w.heap.size, 6, none⟩ (.bool M)).setCell ⟨w.heap.size, 8, none⟩ (.string U)) = w2 at *
        have hz2 := HBW2.out.size
        have lt2 := blk_lt HB2.out
        have HRO : Hid (w2.ownsRow (w.heap.size + 1) 30 9 (.slice B k c) k (pkC (frags (baseP s) N k))) := Lib.hid (by have := HR2.out; unfold PRow at this; rw [frags_length] at this; exact this)
        have hi := HI.out; have hz0 := HZ0.out; have hz1 := HZ1.out; have hz2' := HZ2.out
        have hkb : k ≤ 500 := by
          have := HII.out
          have : k ≤ N * k := Nat.le_mul_of_pos_left k (by omega)
          omega
        have qB20 := (cell_of_block (k := 0) HB2.out rfl).1; have zB20 := (cell_of_block (k := 0) HB2.out rfl).2; have qB21 := (cell_of_block (k := 1) HB2.out rfl).1; have zB21 := (cell_of_block (k := 1) HB2.out rfl).2; have qB22 := (cell_of_block (k := 2) HB2.out rfl).1; have zB22 := (cell_of_block (k := 2) HB2.out rfl).2; have qB23 := (cell_of_block (k := 3) HB2.out rfl).1; have zB23 := (cell_of_block (k := 3) HB2.out rfl).2; have qB24 := (cell_of_block (k := 4) HB2.out rfl).1; have zB24 := (cell_of_block (k := 4) HB2.out rfl).2; have qB25 := (cell_of_block (k := 5) HB2.out rfl).1; have zB25 := (cell_of_block (k := 5) HB2.out rfl).2; have qB26 := (cell_of_block (k := 6) HB2.out rfl).1; have zB26 := (cell_of_block (k := 6) HB2.out rfl).2; have qB27 := (cell_of_block (k := 7) HB2.out rfl).1; have zB27 := (cell_of_block (k := 7) HB2.out rfl).2; have qB28 := (cell_of_block (k := 8) HB2.out rfl).1; have zB28 := (cell_of_block (k := 8) HB2.out rfl).2; have lt_B2 := blk_lt HB2.out
        go_wp2_with (at_builtin; refine wpList_append_lies _ rfl (.tmp 49) (.tmp 51) 37 rfl (w.heap.size + 1) 30 i0 (.agg #[.int .i64 0, .int .i64 0, .int .i64 0, .int .i64 0, .int .i64 0, .bool false, .bool false, .int .i64 0, .string ⟨#[]⟩]) 9 72 Try.underlying37 hi hz0 hz1 hz2' rfl (by decide) (.slice B k c) k (pkC (frags (baseP s) N k)) rfl (HRO.out.alloc _) ⟨w2.heap.size, 0, none⟩ 1 1 [.int .i64 1, .int .i64 2, .int .i64 6, .int .i64 9, .int .i64 77, .bool false, .bool M, .int .i64 (I : Int), .string U] rfl rfl (World.news_of_block (heap_alloc_new w2 _)) (by simp [Value.oneCell']) (by omega) (by unfold maxLen; omega) (by omega) (by simp; omega) (w2.heap.size + 1) (by simp) ?_; intro g cap w7 hown hgrow hat hlt7)
        have hob : ∀ q, Value.ownBlock (.slice B k c) = some q → w.heap.size + 1 ≤ q := fun q eq => by
          cases B with
          | none => cases eq
          | some a => exact (HR2.out.bk ⟨a, rfl, by simpa [Value.ownBlock] using eq⟩).1
        have HB7 : Hid (BaseB w7 w.heap.size) := Lib.hid ⟨M, (I : Int), U, (hgrow.block _ (by simp; omega) (fun eq => by have := hob _ eq.symm; omega)).trans (block_alloc HB2.out _)⟩
        have HBW7 : Hid (Below w.heap.size w w7) := Lib.hid ((below_alloc HBW2.out).grown hgrow (by simp; omega) (fun q eq => by have := hob _ eq; omega))
        have HR7 : Hid (PRow w7 (w.heap.size + 1) (some ⟨g, 0, none⟩) cap (frags (baseP s) N (k + 1))) := Lib.hid (by
          unfold PRow
          rw [frags_length, frags_succ, pkC_snoc, HQ.out]
          exact hown)
        clear hown hgrow hat hlt7 hob
        clear qB20 zB20 qB21 zB21 qB22 zB22 qB23 zB23 qB24 zB24 qB25 zB25 qB26 zB26 qB27 zB27 qB28 zB28 lt_B2
        go_wp2_with fail
        refine ⟨⟨k + 1, some ⟨g, 0, none⟩, cap, ?_, ?_, ?_, rfl, HR7.out, HB7.out, HBW7.out⟩, ?_⟩
        · have := HCL.out.2 (by show N * k < s.size; rw [HII.out]; exact hlt)
          omega
        · intro j hj
          rcases Nat.lt_or_ge j k with q | q
          · exact HKJ.out j q
          · obtain rfl : j = k := by omega
            rw [HII.out]; exact hlt
        · rw [Nat.mul_add, Nat.mul_one, HII.out]; simp
        · simp [Go.RowKit.intOf]; omega
      · have hkl : decide (((N * k : Nat) : Int) < (s.size : Int)) = false := by simp; omega
        have hke : k = count (baseP s) N := by
          have := HCL.out
          have h2 : (baseP s).s.size = s.size := rfl
          rw [h2] at this
          omega
        have HKE := Lib.hid hke; clear hke
        go_wp2_with fail
        go_ret
        have hlen : (partsL s N).length = k := by rw [HPL.out, frags_length, HKE.out]
        rw [hlen]
        refine ⟨⟨B, c, rfl, ?_⟩, HBW.out⟩
        have := HR.out
        unfold PRow at this ⊢
        rw [frags_length] at this
        rw [hlen, HPL.out, ← HKE.out]
        refine ⟨this.1, ?_⟩
        rcases this.2 with q | ⟨g, cap, cur, e1, e2, e3⟩
        · exact .inl q
        · exact .inr ⟨g, cap, cur, e1, by omega, e3⟩
end Go.Proofs.Ytmeldgnjgogacaa.Re
