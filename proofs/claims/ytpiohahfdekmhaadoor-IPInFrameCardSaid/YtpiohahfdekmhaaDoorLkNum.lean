/-
  The contract of link.numbers: pairs of a number and its size in bytes, one behind the other.
-/
import Derived.Test.YtpiohahfdekmhaaDoorBase2
import Derived.Test.YtpiohahfdekmhaaDoorLkErr
import Derived.Deep.RegionHeld3
import Derived.Deep.QuietTactic
namespace Go.Proofs.YtpiohahfdekmhaaDoor.Lk
set_option maxRecDepth 100000
open Go.RowKit Go.Proofs.YtpiohahfdekmhaaDoor.Wire

/-- numbers, each in so many bytes -/
def pes (l : List (Int × Int)) : List UInt8 := l.flatMap fun x => be x.2.toNat x.1
theorem pes_snoc (l : List (Int × Int)) (x : Int × Int) : pes (l ++ [x]) = pes l ++ be x.2.toNat x.1 := by simp [pes]
theorem pes_len : ∀ (l : List (Int × Int)), (∀ x ∈ l, x.2 ≤ 4) → (pes l).length ≤ 4 * l.length
  | [], _ => by simp [pes]
  | x :: l, h => by
    have := pes_len l (fun y hy => h y (List.mem_cons_of_mem _ hy))
    have h1 := h x (List.mem_cons_self ..)
    have e : pes (x :: l) = be x.2.toNat x.1 ++ pes l := rfl
    rw [e, List.length_append, be_length, List.length_cons]
    omega
def prCells (l : List (Int × Int)) : List Value := l.flatMap fun x => [.int .i64 x.1, .int .i64 x.2]
theorem prCells_get : ∀ (l : List (Int × Int)) (i : Nat) (x : Int × Int), l[i]? = some x → (prCells l)[2 * i]? = some (.int .i64 x.1) ∧ (prCells l)[2 * i + 1]? = some (.int .i64 x.2)
  | [], i, x, h => by simp at h
  | a :: l, 0, x, h => by simp at h; subst h; simp [prCells]
  | a :: l, i + 1, x, h => by
    have := prCells_get l i x (by simpa using h)
    have e : prCells (a :: l) = .int .i64 a.1 :: .int .i64 a.2 :: prCells l := rfl
    rw [e]
    have e1 : 2 * (i + 1) = 2 * i + 1 + 1 := by omega
    rw [e1]
    simpa using this
theorem take_succ_get {l : List (Int × Int)} {k : Nat} {x : Int × Int} (h : l[k]? = some x) : l.take (k + 1) = l.take k ++ [x] := by
  rw [List.take_add_one, h]; rfl

set_option maxHeartbeats 4000000 in
theorem numbers_any (g n m cap : Nat) (ns : List (Int × Int)) (w : World) (hm : m = 2 * n) (hn : ns.length = n) (hn2 : n ≤ 100) (hr : ∀ x ∈ ns, (1 ≤ x.2 ∧ x.2 ≤ 4) ∧ 0 ≤ x.1 ∧ x.1 < 256 ^ x.2.toNat) (hg : w.heap[g]? = some (.cells (prCells ns).toArray 3 (0, 0))) :
    Calls Tryd.prog 17 #[.slice (some ⟨g, 0, none⟩) m cap] w fun e w' => e = .returned (.tuple #[.string ⟨(pes ns).toArray⟩, .nilIface]) ∧ Below w.heap.size w w' := by
  have HG := Lib.hid hg; clear hg
  have HN := Lib.hid hn; clear hn
  have HR := Lib.hid hr; clear hr
  have HM := Lib.hid hm; clear hm
  have hm200 : m ≤ 200 := by have := HM.out; omega
  have hgl := blk_lt HG.out
  go_enter Tryd.func17, Tryd.ntmps17
  go_wp2_with fail
  have HB2 := below_alloc (o := .cells #[.pointer none, .slice none 0 0] 79) (Below.refl w.heap.size w)
  go_loopw [5] (fun i wr => ∃ k : Nat, k ≤ n ∧ i = .int .i64 (2 * (k : Int)) ∧ IsB w.heap.size w.heap.size (pes (ns.take k)) wr ∧ Below w.heap.size w wr) (fun i _ => m - (intOf i).toNat)
  case atStart => exact ⟨0, by omega, rfl, isB_new w, HB2⟩
  case round =>
    clear HB2
    obtain ⟨k, hk, rfl, HI, HB⟩ := hrel
    have HI := Lib.hid HI
    have hlen : (pes (ns.take k)).length ≤ 4000 := by
      have h1 := pes_len (ns.take k) (fun x hx => (HR.out x (List.mem_of_mem_take hx)).1.2)
      have h2 : (ns.take k).length ≤ k := List.length_take_le _ _
      omega
    by_cases hlt : k < n
    · have hkl : k < ns.length := by rw [HN.out]; exact hlt
      have HX : Hid (ns[k]? = some ns[k]) := Lib.hid (List.getElem?_eq_getElem hkl)
      obtain ⟨⟨hb1, hb4⟩, hx0, hx1⟩ := HR.out ns[k] (List.getElem_mem hkl)
      obtain ⟨c0, c1⟩ := prCells_get ns k ns[k] HX.out
      have d0 := (HB.cell (p := ⟨g, 2 * k, none⟩) hgl).trans (cell_of_block HG.out (by simpa using c0)).1
      have d1 := (HB.cell (p := ⟨g, 2 * k + 1, none⟩) hgl).trans (cell_of_block HG.out (by simpa using c1)).1
      clear c0 c1
      generalize ns[k] = x at *
      obtain ⟨x, b⟩ := x
      have HT := Lib.hid (take_succ_get HX.out)
      dsimp only at d0 d1 hb1 hb4 hx0 hx1
      have HX1 := Lib.hid hx1; clear hx1 hkl
      have hkl : decide (2 * (k : Int) + 1 < (m : Int)) = true := by have := HM.out; simp; omega
      have hkm : 2 * (k : Int) + 1 < (m : Int) := by have := HM.out; omega
      have hk0 : (0 : Int) ≤ 2 * (k : Int) := by omega
      have hk1 : (0 : Int) ≤ 2 * (k : Int) + 1 := by omega
      have hk2 : 2 * (k : Int) < (m : Int) := by omega
      have hk3 : (2 * (k : Int)).toNat = 2 * k := by omega
      have hk4 : (2 * (k : Int) + 1).toNat = 2 * k + 1 := by omega
      have hk5 : IntKind.i64.wrap (2 * (k : Int) + 1) = 2 * (k : Int) + 1 := IntWalk.i64_in _ (by omega)
      generalize ns.take k = L at *
      go_wp2_with fail
      go_region_held3 (fun w' => w'.cell? ⟨g, 2 * k, none⟩ = some (.int .i64 x) ∧ w'.cell? ⟨g, 2 * k + 1, none⟩ = some (.int .i64 b)) (first | exact ⟨d0, d1⟩ | (go_split_ands; exact ⟨bcell hb d0, bcell hb d1⟩))
        ((go_at_call 29; refine (put_okI x b _ hb1 hb4 hx0 HX1.out).mono ?_; rintro e w3 ⟨rfl, hb⟩))
      have hb : Below wr.heap.size wr w3 := ⟨hb.os, hb.tape, hb.output, hb.size, hb.block⟩
      have HI' := isB_below HI.out hb; have HB' := below_call HB hb; clear HI HB hb d0 d1
      have HI := Lib.hid HI'; clear HI'
      go_wp2_with fail
      have hbl := be_length b.toNat x
      refine (bwrite_any _ _ (pes L) _ _ HI.out (by rw [sz, hbl]; omega)).mono ?_
      rintro e w4 ⟨rfl, HJ, hb⟩
      have HJ := Lib.hid HJ; have HB := HB'.trans hb; clear HB' hb HI hbl
      go_wp2_with fail
      go_roundw
      case rel => exact ⟨k + 1, by omega, by go_num, by rw [HT.out, pes_snoc]; exact HJ.out, HB⟩
      case measure => have := HM.out; simp [intOf]; omega
    · have hkn : k = n := by omega
      have HF : Hid (ns.take k = ns) := Lib.hid (List.take_of_length_le (by rw [HN.out]; omega))
      generalize ns.take k = L at *
      have hkl : decide (2 * (k : Int) + 1 < (m : Int)) = false := by have := HM.out; simp; omega
      have hkm : ¬ (2 * (k : Int) + 1 < (m : Int)) := by have := HM.out; omega
      go_wp2_with fail
      refine (bstring_any _ _ (pes L) _ HI.out).mono ?_
      rintro e w3 ⟨rfl, hb⟩
      go_wp2_with fail
      go_ret2
      exact ⟨by rw [HF.out]; rfl, HB.trans hb⟩
end Go.Proofs.YtpiohahfdekmhaaDoor.Lk
