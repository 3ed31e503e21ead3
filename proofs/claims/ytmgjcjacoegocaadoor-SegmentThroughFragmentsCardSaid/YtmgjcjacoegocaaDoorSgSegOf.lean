/-
  The contract of SegOf of the laws of chapter 11: a valid segment.
-/
import Derived.Test.YtmgjcjacoegocaaDoorSgCut
import Derived.StillTailTactics
namespace Go.Proofs.YtmgjcjacoegocaaDoor.Sg
set_option maxRecDepth 100000
open Go.RowKit Go.Proofs.YtmgjcjacoegocaaDoor.Wire

theorem mem_snoc_B1 {l : List (Int × Int)} {y : Int × Int} (h : ∀ x ∈ l, B1 x) (hy : B1 y) : ∀ z ∈ l ++ [y], B1 z := by
  intro z hz
  rcases List.mem_append.1 hz with q | q
  · exact h z q
  · rw [List.mem_singleton.1 q]; exact hy
/-- what SegOf has made when it comes to its switch -/
def Mid (p0 p1 p2 p8 : Int) (fp tp sq ack : Int) (syn fin rst ha : Bool) (win mss : Int) (sacks : Bool) (A : Option Addr) (n c : Nat) (s : ByteArray) (w wx : World) : Prop :=
  ∃ (a3 : Int) (v : Value) (l : List (Int × Int)), (0 ≤ a3 ∧ a3 ≤ 4294967295) ∧ (ha = false → a3 = 0 ∧ l = []) ∧ l.length ≤ 3 ∧ (∀ x ∈ l, B1 x) ∧
    wx.heap[w.heap.size]? = some (.cells #[.int .i64 fp, .int .i64 tp, .int .i64 sq, .int .i64 ack, .bool syn, .bool fin, .bool rst, .bool ha, .int .i64 win, .int .i64 mss, .bool sacks, .slice A n c, .string s] 24 (0, 0)) ∧ wx.heap[w.heap.size + 1]? = some (.cells #[.int .i64 0, .int .i64 0, .int .i64 0, .int .i64 0, .bool false, .bool false, .bool false, .bool false, .int .i64 0, .int .i64 0, .bool false, .slice none 0 0, .string ⟨#[]⟩] 24 (0, 0)) ∧ wx.heap[w.heap.size + 1 + 1]? = some (.cells #[.int .i64 p0, .int .i64 p1, .int .i64 p2, .int .i64 a3, .bool false, .bool false, .bool false, .bool ha, .int .i64 p8, .int .i64 0, .bool false, v, .string ⟨#[]⟩] 24 (0, 0)) ∧
    wx.ownsRow (w.heap.size + 3) 73 2 v l.length (spCells l) ∧ Below w.heap.size w wx
/-- what SegOf returns -/
def SegPost (w : World) (e : Ending) (w' : World) : Prop := ∃ (x : Seg) (A : Option Addr) (c : Nat), x.ok ∧ e = .returned (x.val A c) ∧ Bks w' A x.bl.length x.bl ∧ Below w.heap.size w w'

set_option maxRecDepth 100000 in
set_option maxHeartbeats 4000000 in
theorem segOf_any (fp tp sq ack : Int) (syn fin rst ha : Bool) (win mss : Int) (sacks : Bool) (A : Option Addr) (n c : Nat) (bl : List (Int × Int)) (s : ByteArray) (kind : Int) (w : World) (hfp : In64 fp) (htp : In64 tp) (hsq : In64 sq) (hack : In64 ack) (hwin : In64 win) (hmss : In64 mss) (hkind : In64 kind) (hn : n ≤ 9223372036854775807) (hr : ∀ x ∈ bl, In64 x.1 ∧ In64 x.2) (hb : Bks w A n bl) :
    Calls Tryd.prog 7 #[.agg #[.int .i64 fp, .int .i64 tp, .int .i64 sq, .int .i64 ack, .bool syn, .bool fin, .bool rst, .bool ha, .int .i64 win, .int .i64 mss, .bool sacks, .slice A n c, .string s], .int .i64 kind] w (SegPost w) := by
  have b0 := pick_lt fp 65535 (by omega)
  have b1 := pick_lt tp 65535 (by omega)
  have b2 := pick_lt sq 4294967296 (by omega)
  have b8 := pick_lt win 65536 (by omega)
  have g0 : IntKind.i64.wrap (1 + pick fp 65535) = 1 + pick fp 65535 := IntWalk.i64_in _ (by omega)
  have g1 : IntKind.i64.wrap (1 + pick tp 65535) = 1 + pick tp 65535 := IntWalk.i64_in _ (by omega)
  have HB0 := Lib.hid hb; clear hb
  have Hx := Lib.hid (block_alloc (alloc_new w (.cells #[.int .i64 fp, .int .i64 tp, .int .i64 sq, .int .i64 ack, .bool syn, .bool fin, .bool rst, .bool ha, .int .i64 win, .int .i64 mss, .bool sacks, .slice A n c, .string s] 24)) (.cells #[.int .i64 0, .int .i64 0, .int .i64 0, .int .i64 0, .bool false, .bool false, .bool false, .bool false, .int .i64 0, .int .i64 0, .bool false, .slice none 0 0, .string ⟨#[]⟩] 24))
  have Hr := Lib.hid (alloc_new' (w.alloc (.cells #[.int .i64 fp, .int .i64 tp, .int .i64 sq, .int .i64 ack, .bool syn, .bool fin, .bool rst, .bool ha, .int .i64 win, .int .i64 mss, .bool sacks, .slice A n c, .string s] 24)) (.cells #[.int .i64 0, .int .i64 0, .int .i64 0, .int .i64 0, .bool false, .bool false, .bool false, .bool false, .int .i64 0, .int .i64 0, .bool false, .slice none 0 0, .string ⟨#[]⟩] 24) (w.heap.size + 1) (by simp))
  have HB := below_alloc (o := .cells #[.int .i64 0, .int .i64 0, .int .i64 0, .int .i64 0, .bool false, .bool false, .bool false, .bool false, .int .i64 0, .int .i64 0, .bool false, .slice none 0 0, .string ⟨#[]⟩] 24) (below_alloc (o := .cells #[.int .i64 fp, .int .i64 tp, .int .i64 sq, .int .i64 ack, .bool syn, .bool fin, .bool rst, .bool ha, .int .i64 win, .int .i64 mss, .bool sacks, .slice A n c, .string s] 24) (Below.refl w.heap.size w))
  go_enter Tryd.func7, Tryd.ntmps7
  go_upto_region 1 with fail
  go_cut [5] (fun s5 wx => s5 = .pointer (some ⟨w.heap.size + 1 + 1, 0, none⟩) ∧ wx = (((w.alloc (.cells #[.int .i64 fp, .int .i64 tp, .int .i64 sq, .int .i64 ack, .bool syn, .bool fin, .bool rst, .bool ha, .int .i64 win, .int .i64 mss, .bool sacks, .slice A n c, .string s] 24)).alloc (.cells #[.int .i64 0, .int .i64 0, .int .i64 0, .int .i64 0, .bool false, .bool false, .bool false, .bool false, .int .i64 0, .int .i64 0, .bool false, .slice none 0 0, .string ⟨#[]⟩] 24)).alloc (.cells #[.int .i64 (1 + pick fp 65535), .int .i64 (1 + pick tp 65535), .int .i64 (pick sq 4294967296), .int .i64 0, .bool false, .bool false, .bool false, .bool ha, .int .i64 (pick win 65536), .int .i64 0, .bool false, .slice none 0 0, .string ⟨#[]⟩] 24)).drew)
  case first =>
    go_region_held3 (fun w' => w'.cell? ⟨w.heap.size, 0, none⟩ = some (.int .i64 fp) ∧ w'.cell? ⟨w.heap.size, 1, none⟩ = some (.int .i64 tp) ∧ w'.cell? ⟨w.heap.size, 2, none⟩ = some (.int .i64 sq) ∧ w'.cell? ⟨w.heap.size, 7, none⟩ = some (.bool ha) ∧ w'.cell? ⟨w.heap.size, 8, none⟩ = some (.int .i64 win)) (first | exact ⟨(cell_of_block Hx.out rfl).1, (cell_of_block Hx.out rfl).1, (cell_of_block Hx.out rfl).1, (cell_of_block Hx.out rfl).1, (cell_of_block Hx.out rfl).1⟩ | (go_split_ands; exact ⟨by assumption, by assumption, by assumption, by assumption, by assumption⟩) | exact ⟨cell_alloc' _ (cell_of_block Hx.out rfl).1, cell_alloc' _ (cell_of_block Hx.out rfl).1, cell_alloc' _ (cell_of_block Hx.out rfl).1, cell_alloc' _ (cell_of_block Hx.out rfl).1, cell_alloc' _ (cell_of_block Hx.out rfl).1⟩)
      (first | (go_at_call 6; refine (pick_any _ _ _ (by omega) (by omega) (by omega) (by omega)).mono ?_; rintro e w5 ⟨rfl, rfl⟩))
    all_goals (go_wp2_with fail; go_meet; exact ⟨rfl, rfl⟩)
  case rest =>
    obtain ⟨rfl, rfl⟩ := hcut
    clear g0 g1
    have Hs := Lib.hid (alloc_new' ((w.alloc (.cells #[.int .i64 fp, .int .i64 tp, .int .i64 sq, .int .i64 ack, .bool syn, .bool fin, .bool rst, .bool ha, .int .i64 win, .int .i64 mss, .bool sacks, .slice A n c, .string s] 24)).alloc (.cells #[.int .i64 0, .int .i64 0, .int .i64 0, .int .i64 0, .bool false, .bool false, .bool false, .bool false, .int .i64 0, .int .i64 0, .bool false, .slice none 0 0, .string ⟨#[]⟩] 24)) (.cells #[.int .i64 (1 + pick fp 65535), .int .i64 (1 + pick tp 65535), .int .i64 (pick sq 4294967296), .int .i64 0, .bool false, .bool false, .bool false, .bool ha, .int .i64 (pick win 65536), .int .i64 0, .bool false, .slice none 0 0, .string ⟨#[]⟩] 24) (w.heap.size + 1 + 1) (by simp))
    have Hx' := Lib.hid (block_alloc Hx.out (.cells #[.int .i64 (1 + pick fp 65535), .int .i64 (1 + pick tp 65535), .int .i64 (pick sq 4294967296), .int .i64 0, .bool false, .bool false, .bool false, .bool ha, .int .i64 (pick win 65536), .int .i64 0, .bool false, .slice none 0 0, .string ⟨#[]⟩] 24)); clear Hx; have Hx := Hx'; clear Hx'
    have Hr' := Lib.hid (block_alloc Hr.out (.cells #[.int .i64 (1 + pick fp 65535), .int .i64 (1 + pick tp 65535), .int .i64 (pick sq 4294967296), .int .i64 0, .bool false, .bool false, .bool false, .bool ha, .int .i64 (pick win 65536), .int .i64 0, .bool false, .slice none 0 0, .string ⟨#[]⟩] 24)); clear Hr; have Hr := Hr'; clear Hr'
    have HB' := (below_alloc (o := .cells #[.int .i64 (1 + pick fp 65535), .int .i64 (1 + pick tp 65535), .int .i64 (pick sq 4294967296), .int .i64 0, .bool false, .bool false, .bool false, .bool ha, .int .i64 (pick win 65536), .int .i64 0, .bool false, .slice none 0 0, .string ⟨#[]⟩] 24) HB).drew; clear HB; have HB := HB'; clear HB'
    have Hx' : Hid ((((w.alloc (.cells #[.int .i64 fp, .int .i64 tp, .int .i64 sq, .int .i64 ack, .bool syn, .bool fin, .bool rst, .bool ha, .int .i64 win, .int .i64 mss, .bool sacks, .slice A n c, .string s] 24)).alloc (.cells #[.int .i64 0, .int .i64 0, .int .i64 0, .int .i64 0, .bool false, .bool false, .bool false, .bool false, .int .i64 0, .int .i64 0, .bool false, .slice none 0 0, .string ⟨#[]⟩] 24)).alloc (.cells #[.int .i64 (1 + pick fp 65535), .int .i64 (1 + pick tp 65535), .int .i64 (pick sq 4294967296), .int .i64 0, .bool false, .bool false, .bool false, .bool ha, .int .i64 (pick win 65536), .int .i64 0, .bool false, .slice none 0 0, .string ⟨#[]⟩] 24)).drew.heap[w.heap.size]? = _) := Lib.hid Hx.out; clear Hx; have Hx := Hx'; clear Hx'
    have Hr' : Hid ((((w.alloc (.cells #[.int .i64 fp, .int .i64 tp, .int .i64 sq, .int .i64 ack, .bool syn, .bool fin, .bool rst, .bool ha, .int .i64 win, .int .i64 mss, .bool sacks, .slice A n c, .string s] 24)).alloc (.cells #[.int .i64 0, .int .i64 0, .int .i64 0, .int .i64 0, .bool false, .bool false, .bool false, .bool false, .int .i64 0, .int .i64 0, .bool false, .slice none 0 0, .string ⟨#[]⟩] 24)).alloc (.cells #[.int .i64 (1 + pick fp 65535), .int .i64 (1 + pick tp 65535), .int .i64 (pick sq 4294967296), .int .i64 0, .bool false, .bool false, .bool false, .bool ha, .int .i64 (pick win 65536), .int .i64 0, .bool false, .slice none 0 0, .string ⟨#[]⟩] 24)).drew.heap[w.heap.size + 1]? = _) := Lib.hid Hr.out; clear Hr; have Hr := Hr'; clear Hr'
    have Hs' : Hid ((((w.alloc (.cells #[.int .i64 fp, .int .i64 tp, .int .i64 sq, .int .i64 ack, .bool syn, .bool fin, .bool rst, .bool ha, .int .i64 win, .int .i64 mss, .bool sacks, .slice A n c, .string s] 24)).alloc (.cells #[.int .i64 0, .int .i64 0, .int .i64 0, .int .i64 0, .bool false, .bool false, .bool false, .bool false, .int .i64 0, .int .i64 0, .bool false, .slice none 0 0, .string ⟨#[]⟩] 24)).alloc (.cells #[.int .i64 (1 + pick fp 65535), .int .i64 (1 + pick tp 65535), .int .i64 (pick sq 4294967296), .int .i64 0, .bool false, .bool false, .bool false, .bool ha, .int .i64 (pick win 65536), .int .i64 0, .bool false, .slice none 0 0, .string ⟨#[]⟩] 24)).drew.heap[w.heap.size + 1 + 1]? = _) := Lib.hid Hs.out; clear Hs; have Hs := Hs'; clear Hs'
    generalize (((w.alloc (.cells #[.int .i64 fp, .int .i64 tp, .int .i64 sq, .int .i64 ack, .bool syn, .bool fin, .bool rst, .bool ha, .int .i64 win, .int .i64 mss, .bool sacks, .slice A n c, .string s] 24)).alloc (.cells #[.int .i64 0, .int .i64 0, .int .i64 0, .int .i64 0, .bool false, .bool false, .bool false, .bool false, .int .i64 0, .int .i64 0, .bool false, .slice none 0 0, .string ⟨#[]⟩] 24)).alloc (.cells #[.int .i64 (1 + pick fp 65535), .int .i64 (1 + pick tp 65535), .int .i64 (pick sq 4294967296), .int .i64 0, .bool false, .bool false, .bool false, .bool ha, .int .i64 (pick win 65536), .int .i64 0, .bool false, .slice none 0 0, .string ⟨#[]⟩] 24)).drew = W1 at *
    have hp0 : 1 ≤ 1 + pick fp 65535 ∧ 1 + pick fp 65535 ≤ 65535 := by omega
    have hp1 : 1 ≤ 1 + pick tp 65535 ∧ 1 + pick tp 65535 ≤ 65535 := by omega
    generalize 1 + pick fp 65535 = p0 at *
    generalize 1 + pick tp 65535 = p1 at *
    generalize pick sq 4294967296 = p2 at *
    generalize pick win 65536 = p8 at *
    clear b0 b1
    have lt_s := blk_lt Hs.out; have hz := HB.size
    have qs7 := (cell_of_block (k := 7) Hs.out rfl).1
    go_upto_if 26 with fail
    clear qs7
    go_cut [6] (fun _ wx => Mid p0 p1 p2 p8 fp tp sq ack syn fin rst ha win mss sacks A n c s w wx)
    case first =>
      cases ha
      · have tok := trivial
        go_wp2_with fail
        go_meet
        exact ⟨0, .slice none 0 0, [], by omega, fun _ => ⟨rfl, rfl⟩, by simp, by simp, Hx.out, Hr.out, Hs.out, World.ownsRow_nil _ _ _ _, HB⟩
      · have tok := trivial
        have b3 := pick_lt ack 4294967296 (by omega)
        have qx3 := (cell_of_block (k := 3) Hx.out rfl).1; have qs3 := (cell_of_block (k := 3) Hs.out rfl).1; have zs3 := (cell_of_block (k := 3) Hs.out rfl).2
        go_wp2_with fail
        refine (pick_any _ _ _ (by omega) (by omega) (by omega) (by omega)).mono ?_
        rintro e w' ⟨rfl, rfl⟩
        have Hx' := Lib.hid (block_set_other (a := ⟨w.heap.size + 1 + 1, 3, none⟩) (u := .int .i64 (pick ack 4294967296)) Hx.out (by first | (simp; done) | (simp; omega))); clear Hx; have Hx := Hx'; clear Hx'
        have Hr' := Lib.hid (block_set_other (a := ⟨w.heap.size + 1 + 1, 3, none⟩) (u := .int .i64 (pick ack 4294967296)) Hr.out (by simp)); clear Hr; have Hr := Hr'; clear Hr'
        have Hs' := Lib.hid (cells_eq (b := #[.int .i64 p0, .int .i64 p1, .int .i64 p2, .int .i64 (pick ack 4294967296), .bool false, .bool false, .bool false, .bool true, .int .i64 p8, .int .i64 0, .bool false, .slice none 0 0, .string ⟨#[]⟩]) (block_setCell (k := 3) (v := .int .i64 (pick ack 4294967296)) Hs.out) rfl); clear Hs; have Hs := Hs'; clear Hs'
        have HB' := Below.setCell (p := ⟨w.heap.size + 1 + 1, 3, none⟩) HB (by first | (simp; done) | (simp; omega)) (.int .i64 (pick ack 4294967296)); clear HB; have HB := HB'; clear HB'
        go_wp2_with fail
        generalize World.setCell W1 ⟨w.heap.size + 1 + 1, 3, none⟩ (.int .i64 (pick ack 4294967296)) = W2 at *
        have hz2 := blk_lt Hs.out
        clear qx3 qs3 zs3 lt_s hz
        have hp3 : 0 ≤ pick ack 4294967296 ∧ pick ack 4294967296 ≤ 4294967295 := by omega
        generalize pick ack 4294967296 = p3 at *
        clear b3
        go_loopw [6] (fun i wr => ∃ (k : Nat) (v : Value) (l : List (Int × Int)), k ≤ 3 ∧ k ≤ n ∧ i = .int .i64 (k : Int) ∧ l.length = k ∧ (∀ x ∈ l, B1 x) ∧ wr.heap[w.heap.size]? = some (.cells #[.int .i64 fp, .int .i64 tp, .int .i64 sq, .int .i64 ack, .bool syn, .bool fin, .bool rst, .bool true, .int .i64 win, .int .i64 mss, .bool sacks, .slice A n c, .string s] 24 (0, 0)) ∧ wr.heap[w.heap.size + 1]? = some (.cells #[.int .i64 0, .int .i64 0, .int .i64 0, .int .i64 0, .bool false, .bool false, .bool false, .bool false, .int .i64 0, .int .i64 0, .bool false, .slice none 0 0, .string ⟨#[]⟩] 24 (0, 0)) ∧ wr.heap[w.heap.size + 1 + 1]? = some (.cells #[.int .i64 p0, .int .i64 p1, .int .i64 p2, .int .i64 p3, .bool false, .bool false, .bool false, .bool true, .int .i64 p8, .int .i64 0, .bool false, v, .string ⟨#[]⟩] 24 (0, 0)) ∧ wr.ownsRow (w.heap.size + 3) 73 2 v k (spCells l) ∧ Below w.heap.size w wr ∧ w.heap.size + 3 ≤ wr.heap.size) (fun i _ => 3 - (intOf i).toNat)
        case atStart => exact ⟨0, .slice none 0 0, [], by omega, by omega, rfl, rfl, by simp, Hx.out, Hr.out, Hs.out, World.ownsRow_nil _ _ _ _, HB, by omega⟩
        case round =>
          clear Hx Hr Hs HB hz2
          obtain ⟨k, v, l, hk3, hkn, rfl, hl, hB1, hX, hR, hS, hrow, HB, hz3⟩ := hrel
          have Hx := Lib.hid hX; have Hr := Lib.hid hR; have Hs := Lib.hid hS; have Hrow := Lib.hid hrow; clear hX hR hS hrow; have Hl := Lib.hid hl; clear hl; have HB1 := Lib.hid hB1; clear hB1
          have qx11 := (cell_of_block (k := 11) Hx.out rfl).1
          have lt_r := blk_lt Hr.out; have lt_s := blk_lt Hs.out
          by_cases hkn2 : k < n
          · by_cases hk32 : k < 3
            · obtain ⟨g, a, b, rfl, hx, hg, c0, c1⟩ := HB0.out.at_ k hkn2
              obtain ⟨ia, ib⟩ := hr _ (List.mem_of_getElem? hx)
              dsimp only at ia ib
              clear hx
              have d0 := (HB.cell (p := ⟨g, k * 2, none⟩) hg).trans c0
              have d1 := (HB.cell (p := ⟨g, k * 2 + 1, none⟩) hg).trans c1
              clear c0 c1
              have ba := pick_lt a 4294967296 (by omega); have bb := pick_lt b 4294967296 (by omega)
              have k1 : (0 : Int) ≤ (k : Int) := by omega
              have k2 : (k : Int) < (n : Int) := by omega
              go_upto_region 7 with fail
              go_cut [7] (fun s7 wx => s7 = .pointer (some ⟨wr.heap.size, 0, none⟩) ∧ wx = (wr.alloc (.cells #[.int .i64 (pick a 4294967296), .int .i64 (pick b 4294967296)] 73)).drew)
              case first =>
                go_region_held3 (fun w' => w'.cell? ⟨w.heap.size, 11, none⟩ = some (.slice (some ⟨g, 0, none⟩) n c) ∧ w'.cell? ⟨g, k * 2, none⟩ = some (.int .i64 a) ∧ w'.cell? ⟨g, k * 2 + 1, none⟩ = some (.int .i64 b)) (first | exact ⟨qx11, d0, d1⟩ | (go_split_ands; exact ⟨by assumption, by assumption, by assumption⟩) | exact ⟨cell_alloc' _ qx11, cell_alloc' _ d0, cell_alloc' _ d1⟩)
                  (first | (go_at_call 6; refine (pick_any _ _ _ (by omega) (by omega) (by omega) (by omega)).mono ?_; rintro e w5 ⟨rfl, rfl⟩))
                all_goals (go_wp2_with fail; go_meet; exact ⟨rfl, rfl⟩)
              case rest =>
                obtain ⟨rfl, rfl⟩ := hcut
                clear qx11 d0 d1 ia ib
                have Hx' := Lib.hid (block_alloc Hx.out (.cells #[.int .i64 (pick a 4294967296), .int .i64 (pick b 4294967296)] 73)); clear Hx; have Hx := Hx'; clear Hx'
                have Hr' := Lib.hid (block_alloc Hr.out (.cells #[.int .i64 (pick a 4294967296), .int .i64 (pick b 4294967296)] 73)); clear Hr; have Hr := Hr'; clear Hr'
                have Hs' := Lib.hid (block_alloc Hs.out (.cells #[.int .i64 (pick a 4294967296), .int .i64 (pick b 4294967296)] 73)); clear Hs; have Hs := Hs'; clear Hs'
                have hvb : v.ownBlock ≠ some wr.heap.size := fun q => by have := (Hrow.out.lt _ q).2; omega
                have Hb := Lib.hid (alloc_new wr (.cells #[.int .i64 (pick a 4294967296), .int .i64 (pick b 4294967296)] 73))
                have Hrow' := Lib.hid (Hrow.out.alloc (.cells #[.int .i64 (pick a 4294967296), .int .i64 (pick b 4294967296)] 73)); clear Hrow; have Hrow := Hrow'; clear Hrow'
                have HB' := (below_alloc (o := .cells #[.int .i64 (pick a 4294967296), .int .i64 (pick b 4294967296)] 73) HB).drew; clear HB; have HB := HB'; clear HB'
                have Hx' : Hid ((wr.alloc (.cells #[.int .i64 (pick a 4294967296), .int .i64 (pick b 4294967296)] 73)).drew.heap[w.heap.size]? = _) := Lib.hid Hx.out; clear Hx; have Hx := Hx'; clear Hx'
                have Hr' : Hid ((wr.alloc (.cells #[.int .i64 (pick a 4294967296), .int .i64 (pick b 4294967296)] 73)).drew.heap[w.heap.size + 1]? = _) := Lib.hid Hr.out; clear Hr; have Hr := Hr'; clear Hr'
                have Hs' : Hid ((wr.alloc (.cells #[.int .i64 (pick a 4294967296), .int .i64 (pick b 4294967296)] 73)).drew.heap[w.heap.size + 1 + 1]? = _) := Lib.hid Hs.out; clear Hs; have Hs := Hs'; clear Hs'
                have Hb' : Hid ((wr.alloc (.cells #[.int .i64 (pick a 4294967296), .int .i64 (pick b 4294967296)] 73)).drew.heap[wr.heap.size]? = _) := Lib.hid Hb.out; clear Hb; have Hb := Hb'; clear Hb'
                have Hrow' : Hid ((wr.alloc (.cells #[.int .i64 (pick a 4294967296), .int .i64 (pick b 4294967296)] 73)).drew.ownsRow (w.heap.size + 3) 73 2 v k (spCells l)) := Lib.hid Hrow.out; clear Hrow; have Hrow := Hrow'; clear Hrow'
                have hsz : (wr.alloc (.cells #[.int .i64 (pick a 4294967296), .int .i64 (pick b 4294967296)] 73)).drew.heap.size = wr.heap.size + 1 := by simp
                generalize (wr.alloc (.cells #[.int .i64 (pick a 4294967296), .int .i64 (pick b 4294967296)] 73)).drew = W5 at *
                have hsz5 : W5.heap.size ≤ wr.heap.size + 1 ∧ wr.heap.size + 1 ≤ W5.heap.size := by omega
                clear hsz
                have pa0 : 0 ≤ pick a 4294967296 ∧ pick a 4294967296 ≤ 4294967295 := by omega
                have pb0 : 0 ≤ pick b 4294967296 ∧ pick b 4294967296 ≤ 4294967295 := by omega
                generalize pick a 4294967296 = pa at *
                generalize pick b 4294967296 = pb at *
                clear ba bb
                obtain ⟨i0, hi, hz0, hz1, hz2⟩ := info_parts infoSpan
                have qb0 := (cell_of_block (k := 0) Hb.out rfl).1; have qb1 := (cell_of_block (k := 1) Hb.out rfl).1; have zb1 := (cell_of_block (k := 1) Hb.out rfl).2
                have lt_b := blk_lt Hb.out
                by_cases heq : pa = pb
                · subst heq
                  go_upto_region 10 with fail
                  have hne0 : wr.heap.size ≠ w.heap.size + 1 + 1 := by omega
                  have Hx' := Lib.hid (block_set_other (a := ⟨wr.heap.size, 1, none⟩) (u := .int .i64 ((pa + 1) % 4294967296)) Hx.out (by first | (simp; done) | (simp; omega))); clear Hx; have Hx := Hx'; clear Hx'
                  have Hr' := Lib.hid (block_set_other (a := ⟨wr.heap.size, 1, none⟩) (u := .int .i64 ((pa + 1) % 4294967296)) Hr.out (by first | (simp; done) | (simp; omega))); clear Hr; have Hr := Hr'; clear Hr'
                  have Hs' := Lib.hid (block_set_other (a := ⟨wr.heap.size, 1, none⟩) (u := .int .i64 ((pa + 1) % 4294967296)) Hs.out (by first | (simp; done) | (simp; omega))); clear Hs; have Hs := Hs'; clear Hs'
                  have Hb' := Lib.hid (cells_eq (b := #[.int .i64 pa, .int .i64 ((pa + 1) % 4294967296)]) (block_setCell (k := 1) (v := .int .i64 ((pa + 1) % 4294967296)) Hb.out) rfl)
                  have hbq := Hb.out; clear Hb; have Hb := Hb'; clear Hb'
                  have HB' := Below.setCell (p := ⟨wr.heap.size, 1, none⟩) HB (by first | (simp; done) | (simp; omega)) (.int .i64 ((pa + 1) % 4294967296)); clear HB; have HB := HB'; clear HB'
                  have Hrow' : Hid ((World.setCell W5 ⟨wr.heap.size, 1, none⟩ (.int .i64 ((pa + 1) % 4294967296))).ownsRow (w.heap.size + 3) 73 2 v k (spCells l)) := Lib.hid (Hrow.out.kept (only_set (p := ⟨wr.heap.size, 1, none⟩) (only_refl W5 wr.heap.size) (.inl rfl) (.int .i64 ((pa + 1) % 4294967296))) (.inr (fun q => hvb q)))
                  clear hbq Hrow; have Hrow := Hrow'; clear Hrow' qb0 qb1 zb1
                  have hs6 : (World.setCell W5 ⟨wr.heap.size, 1, none⟩ (.int .i64 ((pa + 1) % 4294967296))).heap.size ≤ wr.heap.size + 1 ∧ wr.heap.size + 1 ≤ (World.setCell W5 ⟨wr.heap.size, 1, none⟩ (.int .i64 ((pa + 1) % 4294967296))).heap.size := by simpa [World.setCell] using hsz5
                  generalize World.setCell W5 ⟨wr.heap.size, 1, none⟩ (.int .i64 ((pa + 1) % 4294967296)) = W6 at *
                  have qs11 := (cell_of_block (k := 11) Hs.out rfl).1
                  have qb0 := (cell_of_block (k := 0) Hb.out rfl).1; have qb1 := (cell_of_block (k := 1) Hb.out rfl).1
                  have HE1 : B1 (pa, (pa + 1) % 4294967296) := ⟨pa0, by dsimp only; omega, by dsimp only; omega⟩
                  have HE := Lib.hid HE1; clear HE1
                  go_wp2_with (at_builtin; refine wpList_append_own _ rfl _ _ 22 rfl (w.heap.size + 3) 73 i0 (.agg #[.int .i64 0, .int .i64 0]) 2 16 Tryd.underlying22 hi hz0 hz1 hz2 rfl (by decide) v k (spCells l) rfl (Hrow.out.alloc _) ⟨W6.heap.size, 0, none⟩ 1 1 [.int .i64 pa, .int .i64 ((pa + 1) % 4294967296)] rfl rfl (World.news_of_block (alloc_new W6 (.cells #[.int .i64 pa, .int .i64 ((pa + 1) % 4294967296)] 73))) (by simp [Value.oneCell']) (by unfold maxLen; omega) (by omega) (by first | (simp; done) | (simp; omega)) ?_; intro v' w1 hown' hgrow _; obtain ⟨g1, cap1, rfl, hg1, -⟩ := hown'.form (by omega); have Hx1 := Lib.hid (keep_far Hrow.out hgrow Hx.out (by omega)); have Hr1 := Lib.hid (keep_far Hrow.out hgrow Hr.out (by omega)); have Hs1 := Lib.hid (keep_far Hrow.out hgrow Hs.out (by omega)); have HBx := (below_alloc HB).grown hgrow (by have := HB.size; simp; omega) (fun j ej => by have := (Hrow.out.lt _ ej).1; omega); have hgs := hgrow.size; have hs11 := (cell_of_block (k := 11) Hs1.out rfl).1; have zs11 := (cell_of_block (k := 11) Hs1.out rfl).2)
                  have hr2 := hown'.kept (only_set (p := ⟨w.heap.size + 1 + 1, 11, none⟩) (only_refl w1 (w.heap.size + 1 + 1)) (.inl rfl) (.slice (some ⟨g1, 0, none⟩) (k + 1) cap1)) (.inr (by simp [Value.ownBlock]; omega))
                  have Hx2 := Lib.hid (block_set_other (a := ⟨w.heap.size + 1 + 1, 11, none⟩) (u := .slice (some ⟨g1, 0, none⟩) (k + 1) cap1) Hx1.out (by first | (simp; done) | (simp; omega)))
                  have Hr2 := Lib.hid (block_set_other (a := ⟨w.heap.size + 1 + 1, 11, none⟩) (u := .slice (some ⟨g1, 0, none⟩) (k + 1) cap1) Hr1.out (by first | (simp; done) | (simp; omega)))
                  have Hs2 := Lib.hid (cells_eq (b := #[.int .i64 p0, .int .i64 p1, .int .i64 p2, .int .i64 p3, .bool false, .bool false, .bool false, .bool true, .int .i64 p8, .int .i64 0, .bool false, .slice (some ⟨g1, 0, none⟩) (k + 1) cap1, .string ⟨#[]⟩]) (block_setCell (k := 11) (v := .slice (some ⟨g1, 0, none⟩) (k + 1) cap1) Hs1.out) rfl)
                  have HB2 := Below.setCell (p := ⟨w.heap.size + 1 + 1, 11, none⟩) HBx (by first | (simp; done) | (simp; omega)) (.slice (some ⟨g1, 0, none⟩) (k + 1) cap1)
                  have hszz : w.heap.size + 3 ≤ (World.setCell w1 ⟨w.heap.size + 1 + 1, 11, none⟩ (.slice (some ⟨g1, 0, none⟩) (k + 1) cap1)).heap.size := by simp [World.setCell] at hgs ⊢; omega
                  have Hr2' := Lib.hid hr2; clear hr2 hown' hgrow Hx1 Hr1 Hs1 HBx hgs hs11 zs11 Hx Hr Hs Hb Hrow HB qs11 qb0 qb1
                  generalize World.setCell w1 ⟨w.heap.size + 1 + 1, 11, none⟩ (.slice (some ⟨g1, 0, none⟩) (k + 1) cap1) = w2 at *
                  go_wp2_with fail
                  go_roundw
                  case rel => exact ⟨k + 1, .slice (some ⟨g1, 0, none⟩) (k + 1) cap1, l ++ [(pa, (pa + 1) % 4294967296)], by omega, by omega, by go_num, by rw [List.length_append, Hl.out]; rfl, mem_snoc_B1 HB1.out HE.out, Hx2.out, Hr2.out, Hs2.out, by rw [spCells_snoc]; exact Hr2'.out, HB2, hszz⟩
                  case measure => simp [intOf]; omega
                · have hq : (pa == pb) = false := beq_eq_false_iff_ne.2 heq
                  go_upto_region 10 with fail
                  clear qb0 qb1 zb1
                  obtain ⟨W6, rfl⟩ : ∃ W6 : World, W6 = W5 := ⟨_, rfl⟩
                  have hs6 := hsz5
                  have qs11 := (cell_of_block (k := 11) Hs.out rfl).1
                  have qb0 := (cell_of_block (k := 0) Hb.out rfl).1; have qb1 := (cell_of_block (k := 1) Hb.out rfl).1
                  have HE1 : B1 (pa, pb) := ⟨pa0, pb0, heq⟩
                  have HE := Lib.hid HE1; clear HE1
                  go_wp2_with (at_builtin; refine wpList_append_own _ rfl _ _ 22 rfl (w.heap.size + 3) 73 i0 (.agg #[.int .i64 0, .int .i64 0]) 2 16 Tryd.underlying22 hi hz0 hz1 hz2 rfl (by decide) v k (spCells l) rfl (Hrow.out.alloc _) ⟨W6.heap.size, 0, none⟩ 1 1 [.int .i64 pa, .int .i64 (pb)] rfl rfl (World.news_of_block (alloc_new W6 (.cells #[.int .i64 pa, .int .i64 (pb)] 73))) (by simp [Value.oneCell']) (by unfold maxLen; omega) (by omega) (by first | (simp; done) | (simp; omega)) ?_; intro v' w1 hown' hgrow _; obtain ⟨g1, cap1, rfl, hg1, -⟩ := hown'.form (by omega); have Hx1 := Lib.hid (keep_far Hrow.out hgrow Hx.out (by omega)); have Hr1 := Lib.hid (keep_far Hrow.out hgrow Hr.out (by omega)); have Hs1 := Lib.hid (keep_far Hrow.out hgrow Hs.out (by omega)); have HBx := (below_alloc HB).grown hgrow (by have := HB.size; simp; omega) (fun j ej => by have := (Hrow.out.lt _ ej).1; omega); have hgs := hgrow.size; have hs11 := (cell_of_block (k := 11) Hs1.out rfl).1; have zs11 := (cell_of_block (k := 11) Hs1.out rfl).2)
                  have hr2 := hown'.kept (only_set (p := ⟨w.heap.size + 1 + 1, 11, none⟩) (only_refl w1 (w.heap.size + 1 + 1)) (.inl rfl) (.slice (some ⟨g1, 0, none⟩) (k + 1) cap1)) (.inr (by simp [Value.ownBlock]; omega))
                  have Hx2 := Lib.hid (block_set_other (a := ⟨w.heap.size + 1 + 1, 11, none⟩) (u := .slice (some ⟨g1, 0, none⟩) (k + 1) cap1) Hx1.out (by first | (simp; done) | (simp; omega)))
                  have Hr2 := Lib.hid (block_set_other (a := ⟨w.heap.size + 1 + 1, 11, none⟩) (u := .slice (some ⟨g1, 0, none⟩) (k + 1) cap1) Hr1.out (by first | (simp; done) | (simp; omega)))
                  have Hs2 := Lib.hid (cells_eq (b := #[.int .i64 p0, .int .i64 p1, .int .i64 p2, .int .i64 p3, .bool false, .bool false, .bool false, .bool true, .int .i64 p8, .int .i64 0, .bool false, .slice (some ⟨g1, 0, none⟩) (k + 1) cap1, .string ⟨#[]⟩]) (block_setCell (k := 11) (v := .slice (some ⟨g1, 0, none⟩) (k + 1) cap1) Hs1.out) rfl)
                  have HB2 := Below.setCell (p := ⟨w.heap.size + 1 + 1, 11, none⟩) HBx (by first | (simp; done) | (simp; omega)) (.slice (some ⟨g1, 0, none⟩) (k + 1) cap1)
                  have hszz : w.heap.size + 3 ≤ (World.setCell w1 ⟨w.heap.size + 1 + 1, 11, none⟩ (.slice (some ⟨g1, 0, none⟩) (k + 1) cap1)).heap.size := by simp [World.setCell] at hgs ⊢; omega
                  have Hr2' := Lib.hid hr2; clear hr2 hown' hgrow Hx1 Hr1 Hs1 HBx hgs hs11 zs11 Hx Hr Hs Hb Hrow HB qs11 qb0 qb1
                  generalize World.setCell w1 ⟨w.heap.size + 1 + 1, 11, none⟩ (.slice (some ⟨g1, 0, none⟩) (k + 1) cap1) = w2 at *
                  go_wp2_with fail
                  go_roundw
                  case rel => exact ⟨k + 1, .slice (some ⟨g1, 0, none⟩) (k + 1) cap1, l ++ [(pa, pb)], by omega, by omega, by go_num, by rw [List.length_append, Hl.out]; rfl, mem_snoc_B1 HB1.out HE.out, Hx2.out, Hr2.out, Hs2.out, by rw [spCells_snoc]; exact Hr2'.out, HB2, hszz⟩
                  case measure => simp [intOf]; omega
            · have hk3' : k = 3 := by omega
              have hkd : decide ((k : Int) < 3) = false := by simp; omega
              clear hk3'
              go_wp2_with fail
              go_meet
              exact ⟨p3, v, l, hp3, (fun q => by cases q), (by rw [Hl.out]; exact hk3), HB1.out, Hx.out, Hr.out, Hs.out, by rw [Hl.out]; exact Hrow.out, HB⟩
          · have tok := trivial
            go_wp2_with fail
            go_meet
            exact ⟨p3, v, l, hp3, (fun q => by cases q), (by rw [Hl.out]; exact hk3), HB1.out, Hx.out, Hr.out, Hs.out, by rw [Hl.out]; exact Hrow.out, HB⟩
    case rest =>
      clear Hx Hr Hs HB lt_s hz
      obtain ⟨a3, v, l, h3, hha, hl3, hB1, hX, hR, hS, hrow, HB⟩ := hcut
      have Hx := Lib.hid hX; have Hr := Lib.hid hR; have Hs := Lib.hid hS; clear hX hR hS; have hz := HB.size
      obtain ⟨A2, cap, rfl, hbk, -⟩ := bks_own' rfl hrow
      have Hbk := Lib.hid hbk; clear hbk hrow
      have HVB : Hid (VB ha l) := Lib.hid ⟨⟨hl3, fun e => by rw [(hha e).2]; rfl⟩, fun i y hy => hB1 y (List.mem_of_getElem? hy)⟩
      have HVN : Hid (VN p0 p1 p2 a3 ha p8) := Lib.hid ⟨hp0, hp1, by omega, h3, fun e => (hha e).1, by omega⟩
      clear hB1 hha
      rename World => wx
      have lt_r := blk_lt Hr.out; have lt_s := blk_lt Hs.out
      have bk := pick_lt kind 6 (by omega)
      have hlq : l.length ≤ 9223372036854775807 := by omega
      go_wp2_with fail
      refine (pick_any _ _ _ (by omega) (by omega) (by omega) (by omega)).mono ?_
      rintro e w' ⟨rfl, rfl⟩
      generalize pick kind 6 = q at *
      have qx9 := (cell_of_block (k := 9) Hx.out rfl).1
      have qx10 := (cell_of_block (k := 10) Hx.out rfl).1
      have qx12 := (cell_of_block (k := 12) Hx.out rfl).1
      have qs0 := (cell_of_block (k := 0) Hs.out rfl).1; have zs0 := (cell_of_block (k := 0) Hs.out rfl).2; have qs1 := (cell_of_block (k := 1) Hs.out rfl).1; have zs1 := (cell_of_block (k := 1) Hs.out rfl).2; have qs2 := (cell_of_block (k := 2) Hs.out rfl).1; have zs2 := (cell_of_block (k := 2) Hs.out rfl).2; have qs3 := (cell_of_block (k := 3) Hs.out rfl).1; have zs3 := (cell_of_block (k := 3) Hs.out rfl).2; have qs4 := (cell_of_block (k := 4) Hs.out rfl).1; have zs4 := (cell_of_block (k := 4) Hs.out rfl).2; have qs5 := (cell_of_block (k := 5) Hs.out rfl).1; have zs5 := (cell_of_block (k := 5) Hs.out rfl).2; have qs6 := (cell_of_block (k := 6) Hs.out rfl).1; have zs6 := (cell_of_block (k := 6) Hs.out rfl).2; have qs7 := (cell_of_block (k := 7) Hs.out rfl).1; have zs7 := (cell_of_block (k := 7) Hs.out rfl).2; have qs8 := (cell_of_block (k := 8) Hs.out rfl).1; have zs8 := (cell_of_block (k := 8) Hs.out rfl).2; have qs9 := (cell_of_block (k := 9) Hs.out rfl).1; have zs9 := (cell_of_block (k := 9) Hs.out rfl).2; have qs10 := (cell_of_block (k := 10) Hs.out rfl).1; have zs10 := (cell_of_block (k := 10) Hs.out rfl).2; have qs11 := (cell_of_block (k := 11) Hs.out rfl).1; have zs11 := (cell_of_block (k := 11) Hs.out rfl).2; have qs12 := (cell_of_block (k := 12) Hs.out rfl).1; have zs12 := (cell_of_block (k := 12) Hs.out rfl).2
      have qr0 := (cell_of_block (k := 0) Hr.out rfl).1; have zr0 := (cell_of_block (k := 0) Hr.out rfl).2; have qr1 := (cell_of_block (k := 1) Hr.out rfl).1; have zr1 := (cell_of_block (k := 1) Hr.out rfl).2; have qr2 := (cell_of_block (k := 2) Hr.out rfl).1; have zr2 := (cell_of_block (k := 2) Hr.out rfl).2; have qr3 := (cell_of_block (k := 3) Hr.out rfl).1; have zr3 := (cell_of_block (k := 3) Hr.out rfl).2; have qr4 := (cell_of_block (k := 4) Hr.out rfl).1; have zr4 := (cell_of_block (k := 4) Hr.out rfl).2; have qr5 := (cell_of_block (k := 5) Hr.out rfl).1; have zr5 := (cell_of_block (k := 5) Hr.out rfl).2; have qr6 := (cell_of_block (k := 6) Hr.out rfl).1; have zr6 := (cell_of_block (k := 6) Hr.out rfl).2; have qr7 := (cell_of_block (k := 7) Hr.out rfl).1; have zr7 := (cell_of_block (k := 7) Hr.out rfl).2; have qr8 := (cell_of_block (k := 8) Hr.out rfl).1; have zr8 := (cell_of_block (k := 8) Hr.out rfl).2; have qr9 := (cell_of_block (k := 9) Hr.out rfl).1; have zr9 := (cell_of_block (k := 9) Hr.out rfl).2; have qr10 := (cell_of_block (k := 10) Hr.out rfl).1; have zr10 := (cell_of_block (k := 10) Hr.out rfl).2; have qr11 := (cell_of_block (k := 11) Hr.out rfl).1; have zr11 := (cell_of_block (k := 11) Hr.out rfl).2; have qr12 := (cell_of_block (k := 12) Hr.out rfl).1; have zr12 := (cell_of_block (k := 12) Hr.out rfl).2
      have hq : q = 0 ∨ q = 1 ∨ q = 2 ∨ (q = 3 ∨ q = 4 ∨ q = 5) := by omega
      rcases hq with rfl | rfl | rfl | hq
      · by_cases hms : mss = 0
        · have hm0 : (mss != 0) = false := by rw [hms]; rfl
          clear hms
          go_wp2_with fail
          have hbx := Hbk.out; have Hr2 := Hr; have Hs2 := Hs; have HBx := HB; clear Hr Hs HB Hx Hbk
          replace hbx := Bks.setT hbx (p := ⟨w.heap.size + 1 + 1, 4, none⟩) Hs2.out (by decide) (.bool true)
          have Hr3 := Lib.hid (block_set_other (a := ⟨w.heap.size + 1 + 1, 4, none⟩) (u := .bool true) Hr2.out (by simp)); clear Hr2; have Hr2 := Hr3; clear Hr3
          have Hs3 := Lib.hid (cells_eq (b := #[.int .i64 p0, .int .i64 p1, .int .i64 p2, .int .i64 a3, .bool true, .bool false, .bool false, .bool ha, .int .i64 p8, .int .i64 0, .bool false, .slice A2 l.length cap, .string ⟨#[]⟩]) (block_setCell (k := 4) (v := .bool true) Hs2.out) rfl); clear Hs2; have Hs2 := Hs3; clear Hs3
          replace HBx := Below.setCell (p := ⟨w.heap.size + 1 + 1, 4, none⟩) HBx (by first | (simp; done) | (simp; omega)) (.bool true)
          replace hbx := Bks.setT hbx (p := ⟨w.heap.size + 1 + 1, 10, none⟩) Hs2.out (by decide) (.bool sacks)
          have Hr3 := Lib.hid (block_set_other (a := ⟨w.heap.size + 1 + 1, 10, none⟩) (u := .bool sacks) Hr2.out (by simp)); clear Hr2; have Hr2 := Hr3; clear Hr3
          have Hs3 := Lib.hid (cells_eq (b := #[.int .i64 p0, .int .i64 p1, .int .i64 p2, .int .i64 a3, .bool true, .bool false, .bool false, .bool ha, .int .i64 p8, .int .i64 0, .bool sacks, .slice A2 l.length cap, .string ⟨#[]⟩]) (block_setCell (k := 10) (v := .bool sacks) Hs2.out) rfl); clear Hs2; have Hs2 := Hs3; clear Hs3
          replace HBx := Below.setCell (p := ⟨w.heap.size + 1 + 1, 10, none⟩) HBx (by first | (simp; done) | (simp; omega)) (.bool sacks)
          replace HBx := Below.setCell (p := ⟨w.heap.size + 1, 0, none⟩) HBx (by simp) (.int .i64 p0); replace hbx := Bks.setT hbx (p := ⟨w.heap.size + 1, 0, none⟩) Hr2.out (by decide) (.int .i64 p0)
          have Hr3 := Lib.hid (cells_eq (b := #[.int .i64 p0, .int .i64 0, .int .i64 0, .int .i64 0, .bool false, .bool false, .bool false, .bool false, .int .i64 0, .int .i64 0, .bool false, .slice none 0 0, .string ⟨#[]⟩]) (block_setCell (k := 0) (v := .int .i64 p0) Hr2.out) rfl); clear Hr2; have Hr2 := Hr3; clear Hr3
          replace HBx := Below.setCell (p := ⟨w.heap.size + 1, 1, none⟩) HBx (by simp) (.int .i64 p1); replace hbx := Bks.setT hbx (p := ⟨w.heap.size + 1, 1, none⟩) Hr2.out (by decide) (.int .i64 p1)
          have Hr3 := Lib.hid (cells_eq (b := #[.int .i64 p0, .int .i64 p1, .int .i64 0, .int .i64 0, .bool false, .bool false, .bool false, .bool false, .int .i64 0, .int .i64 0, .bool false, .slice none 0 0, .string ⟨#[]⟩]) (block_setCell (k := 1) (v := .int .i64 p1) Hr2.out) rfl); clear Hr2; have Hr2 := Hr3; clear Hr3
          replace HBx := Below.setCell (p := ⟨w.heap.size + 1, 2, none⟩) HBx (by simp) (.int .i64 p2); replace hbx := Bks.setT hbx (p := ⟨w.heap.size + 1, 2, none⟩) Hr2.out (by decide) (.int .i64 p2)
          have Hr3 := Lib.hid (cells_eq (b := #[.int .i64 p0, .int .i64 p1, .int .i64 p2, .int .i64 0, .bool false, .bool false, .bool false, .bool false, .int .i64 0, .int .i64 0, .bool false, .slice none 0 0, .string ⟨#[]⟩]) (block_setCell (k := 2) (v := .int .i64 p2) Hr2.out) rfl); clear Hr2; have Hr2 := Hr3; clear Hr3
          replace HBx := Below.setCell (p := ⟨w.heap.size + 1, 3, none⟩) HBx (by simp) (.int .i64 a3); replace hbx := Bks.setT hbx (p := ⟨w.heap.size + 1, 3, none⟩) Hr2.out (by decide) (.int .i64 a3)
          have Hr3 := Lib.hid (cells_eq (b := #[.int .i64 p0, .int .i64 p1, .int .i64 p2, .int .i64 a3, .bool false, .bool false, .bool false, .bool false, .int .i64 0, .int .i64 0, .bool false, .slice none 0 0, .string ⟨#[]⟩]) (block_setCell (k := 3) (v := .int .i64 a3) Hr2.out) rfl); clear Hr2; have Hr2 := Hr3; clear Hr3
          replace HBx := Below.setCell (p := ⟨w.heap.size + 1, 4, none⟩) HBx (by simp) (.bool true); replace hbx := Bks.setT hbx (p := ⟨w.heap.size + 1, 4, none⟩) Hr2.out (by decide) (.bool true)
          have Hr3 := Lib.hid (cells_eq (b := #[.int .i64 p0, .int .i64 p1, .int .i64 p2, .int .i64 a3, .bool true, .bool false, .bool false, .bool false, .int .i64 0, .int .i64 0, .bool false, .slice none 0 0, .string ⟨#[]⟩]) (block_setCell (k := 4) (v := .bool true) Hr2.out) rfl); clear Hr2; have Hr2 := Hr3; clear Hr3
          replace HBx := Below.setCell (p := ⟨w.heap.size + 1, 5, none⟩) HBx (by simp) (.bool false); replace hbx := Bks.setT hbx (p := ⟨w.heap.size + 1, 5, none⟩) Hr2.out (by decide) (.bool false)
          have Hr3 := Lib.hid (cells_eq (b := #[.int .i64 p0, .int .i64 p1, .int .i64 p2, .int .i64 a3, .bool true, .bool false, .bool false, .bool false, .int .i64 0, .int .i64 0, .bool false, .slice none 0 0, .string ⟨#[]⟩]) (block_setCell (k := 5) (v := .bool false) Hr2.out) rfl); clear Hr2; have Hr2 := Hr3; clear Hr3
          replace HBx := Below.setCell (p := ⟨w.heap.size + 1, 6, none⟩) HBx (by simp) (.bool false); replace hbx := Bks.setT hbx (p := ⟨w.heap.size + 1, 6, none⟩) Hr2.out (by decide) (.bool false)
          have Hr3 := Lib.hid (cells_eq (b := #[.int .i64 p0, .int .i64 p1, .int .i64 p2, .int .i64 a3, .bool true, .bool false, .bool false, .bool false, .int .i64 0, .int .i64 0, .bool false, .slice none 0 0, .string ⟨#[]⟩]) (block_setCell (k := 6) (v := .bool false) Hr2.out) rfl); clear Hr2; have Hr2 := Hr3; clear Hr3
          replace HBx := Below.setCell (p := ⟨w.heap.size + 1, 7, none⟩) HBx (by simp) (.bool ha); replace hbx := Bks.setT hbx (p := ⟨w.heap.size + 1, 7, none⟩) Hr2.out (by decide) (.bool ha)
          have Hr3 := Lib.hid (cells_eq (b := #[.int .i64 p0, .int .i64 p1, .int .i64 p2, .int .i64 a3, .bool true, .bool false, .bool false, .bool ha, .int .i64 0, .int .i64 0, .bool false, .slice none 0 0, .string ⟨#[]⟩]) (block_setCell (k := 7) (v := .bool ha) Hr2.out) rfl); clear Hr2; have Hr2 := Hr3; clear Hr3
          replace HBx := Below.setCell (p := ⟨w.heap.size + 1, 8, none⟩) HBx (by simp) (.int .i64 p8); replace hbx := Bks.setT hbx (p := ⟨w.heap.size + 1, 8, none⟩) Hr2.out (by decide) (.int .i64 p8)
          have Hr3 := Lib.hid (cells_eq (b := #[.int .i64 p0, .int .i64 p1, .int .i64 p2, .int .i64 a3, .bool true, .bool false, .bool false, .bool ha, .int .i64 p8, .int .i64 0, .bool false, .slice none 0 0, .string ⟨#[]⟩]) (block_setCell (k := 8) (v := .int .i64 p8) Hr2.out) rfl); clear Hr2; have Hr2 := Hr3; clear Hr3
          replace HBx := Below.setCell (p := ⟨w.heap.size + 1, 9, none⟩) HBx (by simp) (.int .i64 0); replace hbx := Bks.setT hbx (p := ⟨w.heap.size + 1, 9, none⟩) Hr2.out (by decide) (.int .i64 0)
          have Hr3 := Lib.hid (cells_eq (b := #[.int .i64 p0, .int .i64 p1, .int .i64 p2, .int .i64 a3, .bool true, .bool false, .bool false, .bool ha, .int .i64 p8, .int .i64 0, .bool false, .slice none 0 0, .string ⟨#[]⟩]) (block_setCell (k := 9) (v := .int .i64 0) Hr2.out) rfl); clear Hr2; have Hr2 := Hr3; clear Hr3
          replace HBx := Below.setCell (p := ⟨w.heap.size + 1, 10, none⟩) HBx (by simp) (.bool sacks); replace hbx := Bks.setT hbx (p := ⟨w.heap.size + 1, 10, none⟩) Hr2.out (by decide) (.bool sacks)
          have Hr3 := Lib.hid (cells_eq (b := #[.int .i64 p0, .int .i64 p1, .int .i64 p2, .int .i64 a3, .bool true, .bool false, .bool false, .bool ha, .int .i64 p8, .int .i64 0, .bool sacks, .slice none 0 0, .string ⟨#[]⟩]) (block_setCell (k := 10) (v := .bool sacks) Hr2.out) rfl); clear Hr2; have Hr2 := Hr3; clear Hr3
          replace HBx := Below.setCell (p := ⟨w.heap.size + 1, 11, none⟩) HBx (by simp) (.slice A2 l.length cap); replace hbx := Bks.setT hbx (p := ⟨w.heap.size + 1, 11, none⟩) Hr2.out (by decide) (.slice A2 l.length cap)
          have Hr3 := Lib.hid (cells_eq (b := #[.int .i64 p0, .int .i64 p1, .int .i64 p2, .int .i64 a3, .bool true, .bool false, .bool false, .bool ha, .int .i64 p8, .int .i64 0, .bool sacks, .slice A2 l.length cap, .string ⟨#[]⟩]) (block_setCell (k := 11) (v := .slice A2 l.length cap) Hr2.out) rfl); clear Hr2; have Hr2 := Hr3; clear Hr3
          replace HBx := Below.setCell (p := ⟨w.heap.size + 1, 12, none⟩) HBx (by simp) (.string ⟨#[]⟩); replace hbx := Bks.setT hbx (p := ⟨w.heap.size + 1, 12, none⟩) Hr2.out (by decide) (.string ⟨#[]⟩)
          have Hr3 := Lib.hid (cells_eq (b := #[.int .i64 p0, .int .i64 p1, .int .i64 p2, .int .i64 a3, .bool true, .bool false, .bool false, .bool ha, .int .i64 p8, .int .i64 0, .bool sacks, .slice A2 l.length cap, .string ⟨#[]⟩]) (block_setCell (k := 12) (v := .string ⟨#[]⟩) Hr2.out) rfl); clear Hr2; have Hr2 := Hr3; clear Hr3
          generalize (World.setCell (World.setCell (World.setCell (World.setCell (World.setCell (World.setCell (World.setCell (World.setCell (World.setCell (World.setCell (World.setCell (World.setCell (World.setCell (World.setCell (World.setCell wx ⟨w.heap.size + 1 + 1, 4, none⟩ (.bool true)) ⟨w.heap.size + 1 + 1, 10, none⟩ (.bool sacks)) ⟨w.heap.size + 1, 0, none⟩ (.int .i64 p0)) ⟨w.heap.size + 1, 1, none⟩ (.int .i64 p1)) ⟨w.heap.size + 1, 2, none⟩ (.int .i64 p2)) ⟨w.heap.size + 1, 3, none⟩ (.int .i64 a3)) ⟨w.heap.size + 1, 4, none⟩ (.bool true)) ⟨w.heap.size + 1, 5, none⟩ (.bool false)) ⟨w.heap.size + 1, 6, none⟩ (.bool false)) ⟨w.heap.size + 1, 7, none⟩ (.bool ha)) ⟨w.heap.size + 1, 8, none⟩ (.int .i64 p8)) ⟨w.heap.size + 1, 9, none⟩ (.int .i64 0)) ⟨w.heap.size + 1, 10, none⟩ (.bool sacks)) ⟨w.heap.size + 1, 11, none⟩ (.slice A2 l.length cap)) ⟨w.heap.size + 1, 12, none⟩ (.string ⟨#[]⟩)) = wf at *
          refine bodyPost_ret (v := .agg #[.int .i64 p0, .int .i64 p1, .int .i64 p2, .int .i64 a3, .bool true, .bool false, .bool false, .bool ha, .int .i64 p8, .int .i64 0, .bool sacks, .slice A2 l.length cap, .string ⟨#[]⟩]) ?_ rfl ⟨⟨p0, p1, p2, a3, true, false, false, ha, p8, 0, sacks, l, ⟨#[]⟩⟩, A2, cap, ⟨HVN.out, ⟨fun _ => ⟨rfl, rfl⟩, (fun q => by cases q), (fun q => by cases q), .inl rfl⟩, HVB.out, by show VS _ _ _ _; unfold VS; rfl⟩, rfl, hbx, HBx⟩
          exact res_cell1 (P := Tryd.prog) (fn := Tryd.f7) rfl Hr2.out rfl Tryd.underlying24 rfl (by kernel_rfl)
        · have hm0 : (mss != 0) = true := by simpa using hms
          clear hms
          have bm := pick_lt mss 997 (by omega)
          go_wp2_with fail
          refine (pick_any _ _ _ (by omega) (by omega) (by omega) (by omega)).mono ?_
          rintro e w' ⟨rfl, rfl⟩
          generalize pick mss 997 = pm at *
          go_wp2_with fail
          have hbx := Hbk.out; have Hr2 := Hr; have Hs2 := Hs; have HBx := HB; clear Hr Hs HB Hx Hbk
          replace hbx := Bks.setT hbx (p := ⟨w.heap.size + 1 + 1, 4, none⟩) Hs2.out (by decide) (.bool true)
          have Hr3 := Lib.hid (block_set_other (a := ⟨w.heap.size + 1 + 1, 4, none⟩) (u := .bool true) Hr2.out (by simp)); clear Hr2; have Hr2 := Hr3; clear Hr3
          have Hs3 := Lib.hid (cells_eq (b := #[.int .i64 p0, .int .i64 p1, .int .i64 p2, .int .i64 a3, .bool true, .bool false, .bool false, .bool ha, .int .i64 p8, .int .i64 0, .bool false, .slice A2 l.length cap, .string ⟨#[]⟩]) (block_setCell (k := 4) (v := .bool true) Hs2.out) rfl); clear Hs2; have Hs2 := Hs3; clear Hs3
          replace HBx := Below.setCell (p := ⟨w.heap.size + 1 + 1, 4, none⟩) HBx (by first | (simp; done) | (simp; omega)) (.bool true)
          replace hbx := Bks.setT hbx (p := ⟨w.heap.size + 1 + 1, 10, none⟩) Hs2.out (by decide) (.bool sacks)
          have Hr3 := Lib.hid (block_set_other (a := ⟨w.heap.size + 1 + 1, 10, none⟩) (u := .bool sacks) Hr2.out (by simp)); clear Hr2; have Hr2 := Hr3; clear Hr3
          have Hs3 := Lib.hid (cells_eq (b := #[.int .i64 p0, .int .i64 p1, .int .i64 p2, .int .i64 a3, .bool true, .bool false, .bool false, .bool ha, .int .i64 p8, .int .i64 0, .bool sacks, .slice A2 l.length cap, .string ⟨#[]⟩]) (block_setCell (k := 10) (v := .bool sacks) Hs2.out) rfl); clear Hs2; have Hs2 := Hs3; clear Hs3
          replace HBx := Below.setCell (p := ⟨w.heap.size + 1 + 1, 10, none⟩) HBx (by first | (simp; done) | (simp; omega)) (.bool sacks)
          replace hbx := Bks.setT hbx (p := ⟨w.heap.size + 1 + 1, 9, none⟩) Hs2.out (by decide) (.int .i64 (28 + pm))
          have Hr3 := Lib.hid (block_set_other (a := ⟨w.heap.size + 1 + 1, 9, none⟩) (u := .int .i64 (28 + pm)) Hr2.out (by simp)); clear Hr2; have Hr2 := Hr3; clear Hr3
          have Hs3 := Lib.hid (cells_eq (b := #[.int .i64 p0, .int .i64 p1, .int .i64 p2, .int .i64 a3, .bool true, .bool false, .bool false, .bool ha, .int .i64 p8, .int .i64 (28 + pm), .bool sacks, .slice A2 l.length cap, .string ⟨#[]⟩]) (block_setCell (k := 9) (v := .int .i64 (28 + pm)) Hs2.out) rfl); clear Hs2; have Hs2 := Hs3; clear Hs3
          replace HBx := Below.setCell (p := ⟨w.heap.size + 1 + 1, 9, none⟩) HBx (by first | (simp; done) | (simp; omega)) (.int .i64 (28 + pm))
          replace HBx := Below.setCell (p := ⟨w.heap.size + 1, 0, none⟩) HBx (by simp) (.int .i64 p0); replace hbx := Bks.setT hbx (p := ⟨w.heap.size + 1, 0, none⟩) Hr2.out (by decide) (.int .i64 p0)
          have Hr3 := Lib.hid (cells_eq (b := #[.int .i64 p0, .int .i64 0, .int .i64 0, .int .i64 0, .bool false, .bool false, .bool false, .bool false, .int .i64 0, .int .i64 0, .bool false, .slice none 0 0, .string ⟨#[]⟩]) (block_setCell (k := 0) (v := .int .i64 p0) Hr2.out) rfl); clear Hr2; have Hr2 := Hr3; clear Hr3
          replace HBx := Below.setCell (p := ⟨w.heap.size + 1, 1, none⟩) HBx (by simp) (.int .i64 p1); replace hbx := Bks.setT hbx (p := ⟨w.heap.size + 1, 1, none⟩) Hr2.out (by decide) (.int .i64 p1)
          have Hr3 := Lib.hid (cells_eq (b := #[.int .i64 p0, .int .i64 p1, .int .i64 0, .int .i64 0, .bool false, .bool false, .bool false, .bool false, .int .i64 0, .int .i64 0, .bool false, .slice none 0 0, .string ⟨#[]⟩]) (block_setCell (k := 1) (v := .int .i64 p1) Hr2.out) rfl); clear Hr2; have Hr2 := Hr3; clear Hr3
          replace HBx := Below.setCell (p := ⟨w.heap.size + 1, 2, none⟩) HBx (by simp) (.int .i64 p2); replace hbx := Bks.setT hbx (p := ⟨w.heap.size + 1, 2, none⟩) Hr2.out (by decide) (.int .i64 p2)
          have Hr3 := Lib.hid (cells_eq (b := #[.int .i64 p0, .int .i64 p1, .int .i64 p2, .int .i64 0, .bool false, .bool false, .bool false, .bool false, .int .i64 0, .int .i64 0, .bool false, .slice none 0 0, .string ⟨#[]⟩]) (block_setCell (k := 2) (v := .int .i64 p2) Hr2.out) rfl); clear Hr2; have Hr2 := Hr3; clear Hr3
          replace HBx := Below.setCell (p := ⟨w.heap.size + 1, 3, none⟩) HBx (by simp) (.int .i64 a3); replace hbx := Bks.setT hbx (p := ⟨w.heap.size + 1, 3, none⟩) Hr2.out (by decide) (.int .i64 a3)
          have Hr3 := Lib.hid (cells_eq (b := #[.int .i64 p0, .int .i64 p1, .int .i64 p2, .int .i64 a3, .bool false, .bool false, .bool false, .bool false, .int .i64 0, .int .i64 0, .bool false, .slice none 0 0, .string ⟨#[]⟩]) (block_setCell (k := 3) (v := .int .i64 a3) Hr2.out) rfl); clear Hr2; have Hr2 := Hr3; clear Hr3
          replace HBx := Below.setCell (p := ⟨w.heap.size + 1, 4, none⟩) HBx (by simp) (.bool true); replace hbx := Bks.setT hbx (p := ⟨w.heap.size + 1, 4, none⟩) Hr2.out (by decide) (.bool true)
          have Hr3 := Lib.hid (cells_eq (b := #[.int .i64 p0, .int .i64 p1, .int .i64 p2, .int .i64 a3, .bool true, .bool false, .bool false, .bool false, .int .i64 0, .int .i64 0, .bool false, .slice none 0 0, .string ⟨#[]⟩]) (block_setCell (k := 4) (v := .bool true) Hr2.out) rfl); clear Hr2; have Hr2 := Hr3; clear Hr3
          replace HBx := Below.setCell (p := ⟨w.heap.size + 1, 5, none⟩) HBx (by simp) (.bool false); replace hbx := Bks.setT hbx (p := ⟨w.heap.size + 1, 5, none⟩) Hr2.out (by decide) (.bool false)
          have Hr3 := Lib.hid (cells_eq (b := #[.int .i64 p0, .int .i64 p1, .int .i64 p2, .int .i64 a3, .bool true, .bool false, .bool false, .bool false, .int .i64 0, .int .i64 0, .bool false, .slice none 0 0, .string ⟨#[]⟩]) (block_setCell (k := 5) (v := .bool false) Hr2.out) rfl); clear Hr2; have Hr2 := Hr3; clear Hr3
          replace HBx := Below.setCell (p := ⟨w.heap.size + 1, 6, none⟩) HBx (by simp) (.bool false); replace hbx := Bks.setT hbx (p := ⟨w.heap.size + 1, 6, none⟩) Hr2.out (by decide) (.bool false)
          have Hr3 := Lib.hid (cells_eq (b := #[.int .i64 p0, .int .i64 p1, .int .i64 p2, .int .i64 a3, .bool true, .bool false, .bool false, .bool false, .int .i64 0, .int .i64 0, .bool false, .slice none 0 0, .string ⟨#[]⟩]) (block_setCell (k := 6) (v := .bool false) Hr2.out) rfl); clear Hr2; have Hr2 := Hr3; clear Hr3
          replace HBx := Below.setCell (p := ⟨w.heap.size + 1, 7, none⟩) HBx (by simp) (.bool ha); replace hbx := Bks.setT hbx (p := ⟨w.heap.size + 1, 7, none⟩) Hr2.out (by decide) (.bool ha)
          have Hr3 := Lib.hid (cells_eq (b := #[.int .i64 p0, .int .i64 p1, .int .i64 p2, .int .i64 a3, .bool true, .bool false, .bool false, .bool ha, .int .i64 0, .int .i64 0, .bool false, .slice none 0 0, .string ⟨#[]⟩]) (block_setCell (k := 7) (v := .bool ha) Hr2.out) rfl); clear Hr2; have Hr2 := Hr3; clear Hr3
          replace HBx := Below.setCell (p := ⟨w.heap.size + 1, 8, none⟩) HBx (by simp) (.int .i64 p8); replace hbx := Bks.setT hbx (p := ⟨w.heap.size + 1, 8, none⟩) Hr2.out (by decide) (.int .i64 p8)
          have Hr3 := Lib.hid (cells_eq (b := #[.int .i64 p0, .int .i64 p1, .int .i64 p2, .int .i64 a3, .bool true, .bool false, .bool false, .bool ha, .int .i64 p8, .int .i64 0, .bool false, .slice none 0 0, .string ⟨#[]⟩]) (block_setCell (k := 8) (v := .int .i64 p8) Hr2.out) rfl); clear Hr2; have Hr2 := Hr3; clear Hr3
          replace HBx := Below.setCell (p := ⟨w.heap.size + 1, 9, none⟩) HBx (by simp) (.int .i64 (28 + pm)); replace hbx := Bks.setT hbx (p := ⟨w.heap.size + 1, 9, none⟩) Hr2.out (by decide) (.int .i64 (28 + pm))
          have Hr3 := Lib.hid (cells_eq (b := #[.int .i64 p0, .int .i64 p1, .int .i64 p2, .int .i64 a3, .bool true, .bool false, .bool false, .bool ha, .int .i64 p8, .int .i64 (28 + pm), .bool false, .slice none 0 0, .string ⟨#[]⟩]) (block_setCell (k := 9) (v := .int .i64 (28 + pm)) Hr2.out) rfl); clear Hr2; have Hr2 := Hr3; clear Hr3
          replace HBx := Below.setCell (p := ⟨w.heap.size + 1, 10, none⟩) HBx (by simp) (.bool sacks); replace hbx := Bks.setT hbx (p := ⟨w.heap.size + 1, 10, none⟩) Hr2.out (by decide) (.bool sacks)
          have Hr3 := Lib.hid (cells_eq (b := #[.int .i64 p0, .int .i64 p1, .int .i64 p2, .int .i64 a3, .bool true, .bool false, .bool false, .bool ha, .int .i64 p8, .int .i64 (28 + pm), .bool sacks, .slice none 0 0, .string ⟨#[]⟩]) (block_setCell (k := 10) (v := .bool sacks) Hr2.out) rfl); clear Hr2; have Hr2 := Hr3; clear Hr3
          replace HBx := Below.setCell (p := ⟨w.heap.size + 1, 11, none⟩) HBx (by simp) (.slice A2 l.length cap); replace hbx := Bks.setT hbx (p := ⟨w.heap.size + 1, 11, none⟩) Hr2.out (by decide) (.slice A2 l.length cap)
          have Hr3 := Lib.hid (cells_eq (b := #[.int .i64 p0, .int .i64 p1, .int .i64 p2, .int .i64 a3, .bool true, .bool false, .bool false, .bool ha, .int .i64 p8, .int .i64 (28 + pm), .bool sacks, .slice A2 l.length cap, .string ⟨#[]⟩]) (block_setCell (k := 11) (v := .slice A2 l.length cap) Hr2.out) rfl); clear Hr2; have Hr2 := Hr3; clear Hr3
          replace HBx := Below.setCell (p := ⟨w.heap.size + 1, 12, none⟩) HBx (by simp) (.string ⟨#[]⟩); replace hbx := Bks.setT hbx (p := ⟨w.heap.size + 1, 12, none⟩) Hr2.out (by decide) (.string ⟨#[]⟩)
          have Hr3 := Lib.hid (cells_eq (b := #[.int .i64 p0, .int .i64 p1, .int .i64 p2, .int .i64 a3, .bool true, .bool false, .bool false, .bool ha, .int .i64 p8, .int .i64 (28 + pm), .bool sacks, .slice A2 l.length cap, .string ⟨#[]⟩]) (block_setCell (k := 12) (v := .string ⟨#[]⟩) Hr2.out) rfl); clear Hr2; have Hr2 := Hr3; clear Hr3
          generalize (World.setCell (World.setCell (World.setCell (World.setCell (World.setCell (World.setCell (World.setCell (World.setCell (World.setCell (World.setCell (World.setCell (World.setCell (World.setCell (World.setCell (World.setCell (World.setCell wx ⟨w.heap.size + 1 + 1, 4, none⟩ (.bool true)) ⟨w.heap.size + 1 + 1, 10, none⟩ (.bool sacks)) ⟨w.heap.size + 1 + 1, 9, none⟩ (.int .i64 (28 + pm))) ⟨w.heap.size + 1, 0, none⟩ (.int .i64 p0)) ⟨w.heap.size + 1, 1, none⟩ (.int .i64 p1)) ⟨w.heap.size + 1, 2, none⟩ (.int .i64 p2)) ⟨w.heap.size + 1, 3, none⟩ (.int .i64 a3)) ⟨w.heap.size + 1, 4, none⟩ (.bool true)) ⟨w.heap.size + 1, 5, none⟩ (.bool false)) ⟨w.heap.size + 1, 6, none⟩ (.bool false)) ⟨w.heap.size + 1, 7, none⟩ (.bool ha)) ⟨w.heap.size + 1, 8, none⟩ (.int .i64 p8)) ⟨w.heap.size + 1, 9, none⟩ (.int .i64 (28 + pm))) ⟨w.heap.size + 1, 10, none⟩ (.bool sacks)) ⟨w.heap.size + 1, 11, none⟩ (.slice A2 l.length cap)) ⟨w.heap.size + 1, 12, none⟩ (.string ⟨#[]⟩)) = wf at *
          refine bodyPost_ret (v := .agg #[.int .i64 p0, .int .i64 p1, .int .i64 p2, .int .i64 a3, .bool true, .bool false, .bool false, .bool ha, .int .i64 p8, .int .i64 (28 + pm), .bool sacks, .slice A2 l.length cap, .string ⟨#[]⟩]) ?_ rfl ⟨⟨p0, p1, p2, a3, true, false, false, ha, p8, (28 + pm), sacks, l, ⟨#[]⟩⟩, A2, cap, ⟨HVN.out, ⟨fun _ => ⟨rfl, rfl⟩, (fun q => by cases q), (fun q => by cases q), .inr ⟨by dsimp only; omega, by dsimp only; omega⟩⟩, HVB.out, by show VS _ _ _ _; unfold VS; rfl⟩, rfl, hbx, HBx⟩
          exact res_cell1 (P := Tryd.prog) (fn := Tryd.f7) rfl Hr2.out rfl Tryd.underlying24 rfl (by kernel_rfl)
      · have tok := trivial
        go_wp2_with fail
        have hbx := Hbk.out; have Hr2 := Hr; have Hs2 := Hs; have HBx := HB; clear Hr Hs HB Hx Hbk
        replace hbx := Bks.setT hbx (p := ⟨w.heap.size + 1 + 1, 6, none⟩) Hs2.out (by decide) (.bool true)
        have Hr3 := Lib.hid (block_set_other (a := ⟨w.heap.size + 1 + 1, 6, none⟩) (u := .bool true) Hr2.out (by simp)); clear Hr2; have Hr2 := Hr3; clear Hr3
        have Hs3 := Lib.hid (cells_eq (b := #[.int .i64 p0, .int .i64 p1, .int .i64 p2, .int .i64 a3, .bool false, .bool false, .bool true, .bool ha, .int .i64 p8, .int .i64 0, .bool false, .slice A2 l.length cap, .string ⟨#[]⟩]) (block_setCell (k := 6) (v := .bool true) Hs2.out) rfl); clear Hs2; have Hs2 := Hs3; clear Hs3
        replace HBx := Below.setCell (p := ⟨w.heap.size + 1 + 1, 6, none⟩) HBx (by first | (simp; done) | (simp; omega)) (.bool true)
        replace HBx := Below.setCell (p := ⟨w.heap.size + 1, 0, none⟩) HBx (by simp) (.int .i64 p0); replace hbx := Bks.setT hbx (p := ⟨w.heap.size + 1, 0, none⟩) Hr2.out (by decide) (.int .i64 p0)
        have Hr3 := Lib.hid (cells_eq (b := #[.int .i64 p0, .int .i64 0, .int .i64 0, .int .i64 0, .bool false, .bool false, .bool false, .bool false, .int .i64 0, .int .i64 0, .bool false, .slice none 0 0, .string ⟨#[]⟩]) (block_setCell (k := 0) (v := .int .i64 p0) Hr2.out) rfl); clear Hr2; have Hr2 := Hr3; clear Hr3
        replace HBx := Below.setCell (p := ⟨w.heap.size + 1, 1, none⟩) HBx (by simp) (.int .i64 p1); replace hbx := Bks.setT hbx (p := ⟨w.heap.size + 1, 1, none⟩) Hr2.out (by decide) (.int .i64 p1)
        have Hr3 := Lib.hid (cells_eq (b := #[.int .i64 p0, .int .i64 p1, .int .i64 0, .int .i64 0, .bool false, .bool false, .bool false, .bool false, .int .i64 0, .int .i64 0, .bool false, .slice none 0 0, .string ⟨#[]⟩]) (block_setCell (k := 1) (v := .int .i64 p1) Hr2.out) rfl); clear Hr2; have Hr2 := Hr3; clear Hr3
        replace HBx := Below.setCell (p := ⟨w.heap.size + 1, 2, none⟩) HBx (by simp) (.int .i64 p2); replace hbx := Bks.setT hbx (p := ⟨w.heap.size + 1, 2, none⟩) Hr2.out (by decide) (.int .i64 p2)
        have Hr3 := Lib.hid (cells_eq (b := #[.int .i64 p0, .int .i64 p1, .int .i64 p2, .int .i64 0, .bool false, .bool false, .bool false, .bool false, .int .i64 0, .int .i64 0, .bool false, .slice none 0 0, .string ⟨#[]⟩]) (block_setCell (k := 2) (v := .int .i64 p2) Hr2.out) rfl); clear Hr2; have Hr2 := Hr3; clear Hr3
        replace HBx := Below.setCell (p := ⟨w.heap.size + 1, 3, none⟩) HBx (by simp) (.int .i64 a3); replace hbx := Bks.setT hbx (p := ⟨w.heap.size + 1, 3, none⟩) Hr2.out (by decide) (.int .i64 a3)
        have Hr3 := Lib.hid (cells_eq (b := #[.int .i64 p0, .int .i64 p1, .int .i64 p2, .int .i64 a3, .bool false, .bool false, .bool false, .bool false, .int .i64 0, .int .i64 0, .bool false, .slice none 0 0, .string ⟨#[]⟩]) (block_setCell (k := 3) (v := .int .i64 a3) Hr2.out) rfl); clear Hr2; have Hr2 := Hr3; clear Hr3
        replace HBx := Below.setCell (p := ⟨w.heap.size + 1, 4, none⟩) HBx (by simp) (.bool false); replace hbx := Bks.setT hbx (p := ⟨w.heap.size + 1, 4, none⟩) Hr2.out (by decide) (.bool false)
        have Hr3 := Lib.hid (cells_eq (b := #[.int .i64 p0, .int .i64 p1, .int .i64 p2, .int .i64 a3, .bool false, .bool false, .bool false, .bool false, .int .i64 0, .int .i64 0, .bool false, .slice none 0 0, .string ⟨#[]⟩]) (block_setCell (k := 4) (v := .bool false) Hr2.out) rfl); clear Hr2; have Hr2 := Hr3; clear Hr3
        replace HBx := Below.setCell (p := ⟨w.heap.size + 1, 5, none⟩) HBx (by simp) (.bool false); replace hbx := Bks.setT hbx (p := ⟨w.heap.size + 1, 5, none⟩) Hr2.out (by decide) (.bool false)
        have Hr3 := Lib.hid (cells_eq (b := #[.int .i64 p0, .int .i64 p1, .int .i64 p2, .int .i64 a3, .bool false, .bool false, .bool false, .bool false, .int .i64 0, .int .i64 0, .bool false, .slice none 0 0, .string ⟨#[]⟩]) (block_setCell (k := 5) (v := .bool false) Hr2.out) rfl); clear Hr2; have Hr2 := Hr3; clear Hr3
        replace HBx := Below.setCell (p := ⟨w.heap.size + 1, 6, none⟩) HBx (by simp) (.bool true); replace hbx := Bks.setT hbx (p := ⟨w.heap.size + 1, 6, none⟩) Hr2.out (by decide) (.bool true)
        have Hr3 := Lib.hid (cells_eq (b := #[.int .i64 p0, .int .i64 p1, .int .i64 p2, .int .i64 a3, .bool false, .bool false, .bool true, .bool false, .int .i64 0, .int .i64 0, .bool false, .slice none 0 0, .string ⟨#[]⟩]) (block_setCell (k := 6) (v := .bool true) Hr2.out) rfl); clear Hr2; have Hr2 := Hr3; clear Hr3
        replace HBx := Below.setCell (p := ⟨w.heap.size + 1, 7, none⟩) HBx (by simp) (.bool ha); replace hbx := Bks.setT hbx (p := ⟨w.heap.size + 1, 7, none⟩) Hr2.out (by decide) (.bool ha)
        have Hr3 := Lib.hid (cells_eq (b := #[.int .i64 p0, .int .i64 p1, .int .i64 p2, .int .i64 a3, .bool false, .bool false, .bool true, .bool ha, .int .i64 0, .int .i64 0, .bool false, .slice none 0 0, .string ⟨#[]⟩]) (block_setCell (k := 7) (v := .bool ha) Hr2.out) rfl); clear Hr2; have Hr2 := Hr3; clear Hr3
        replace HBx := Below.setCell (p := ⟨w.heap.size + 1, 8, none⟩) HBx (by simp) (.int .i64 p8); replace hbx := Bks.setT hbx (p := ⟨w.heap.size + 1, 8, none⟩) Hr2.out (by decide) (.int .i64 p8)
        have Hr3 := Lib.hid (cells_eq (b := #[.int .i64 p0, .int .i64 p1, .int .i64 p2, .int .i64 a3, .bool false, .bool false, .bool true, .bool ha, .int .i64 p8, .int .i64 0, .bool false, .slice none 0 0, .string ⟨#[]⟩]) (block_setCell (k := 8) (v := .int .i64 p8) Hr2.out) rfl); clear Hr2; have Hr2 := Hr3; clear Hr3
        replace HBx := Below.setCell (p := ⟨w.heap.size + 1, 9, none⟩) HBx (by simp) (.int .i64 0); replace hbx := Bks.setT hbx (p := ⟨w.heap.size + 1, 9, none⟩) Hr2.out (by decide) (.int .i64 0)
        have Hr3 := Lib.hid (cells_eq (b := #[.int .i64 p0, .int .i64 p1, .int .i64 p2, .int .i64 a3, .bool false, .bool false, .bool true, .bool ha, .int .i64 p8, .int .i64 0, .bool false, .slice none 0 0, .string ⟨#[]⟩]) (block_setCell (k := 9) (v := .int .i64 0) Hr2.out) rfl); clear Hr2; have Hr2 := Hr3; clear Hr3
        replace HBx := Below.setCell (p := ⟨w.heap.size + 1, 10, none⟩) HBx (by simp) (.bool false); replace hbx := Bks.setT hbx (p := ⟨w.heap.size + 1, 10, none⟩) Hr2.out (by decide) (.bool false)
        have Hr3 := Lib.hid (cells_eq (b := #[.int .i64 p0, .int .i64 p1, .int .i64 p2, .int .i64 a3, .bool false, .bool false, .bool true, .bool ha, .int .i64 p8, .int .i64 0, .bool false, .slice none 0 0, .string ⟨#[]⟩]) (block_setCell (k := 10) (v := .bool false) Hr2.out) rfl); clear Hr2; have Hr2 := Hr3; clear Hr3
        replace HBx := Below.setCell (p := ⟨w.heap.size + 1, 11, none⟩) HBx (by simp) (.slice A2 l.length cap); replace hbx := Bks.setT hbx (p := ⟨w.heap.size + 1, 11, none⟩) Hr2.out (by decide) (.slice A2 l.length cap)
        have Hr3 := Lib.hid (cells_eq (b := #[.int .i64 p0, .int .i64 p1, .int .i64 p2, .int .i64 a3, .bool false, .bool false, .bool true, .bool ha, .int .i64 p8, .int .i64 0, .bool false, .slice A2 l.length cap, .string ⟨#[]⟩]) (block_setCell (k := 11) (v := .slice A2 l.length cap) Hr2.out) rfl); clear Hr2; have Hr2 := Hr3; clear Hr3
        replace HBx := Below.setCell (p := ⟨w.heap.size + 1, 12, none⟩) HBx (by simp) (.string ⟨#[]⟩); replace hbx := Bks.setT hbx (p := ⟨w.heap.size + 1, 12, none⟩) Hr2.out (by decide) (.string ⟨#[]⟩)
        have Hr3 := Lib.hid (cells_eq (b := #[.int .i64 p0, .int .i64 p1, .int .i64 p2, .int .i64 a3, .bool false, .bool false, .bool true, .bool ha, .int .i64 p8, .int .i64 0, .bool false, .slice A2 l.length cap, .string ⟨#[]⟩]) (block_setCell (k := 12) (v := .string ⟨#[]⟩) Hr2.out) rfl); clear Hr2; have Hr2 := Hr3; clear Hr3
        generalize (World.setCell (World.setCell (World.setCell (World.setCell (World.setCell (World.setCell (World.setCell (World.setCell (World.setCell (World.setCell (World.setCell (World.setCell (World.setCell (World.setCell wx ⟨w.heap.size + 1 + 1, 6, none⟩ (.bool true)) ⟨w.heap.size + 1, 0, none⟩ (.int .i64 p0)) ⟨w.heap.size + 1, 1, none⟩ (.int .i64 p1)) ⟨w.heap.size + 1, 2, none⟩ (.int .i64 p2)) ⟨w.heap.size + 1, 3, none⟩ (.int .i64 a3)) ⟨w.heap.size + 1, 4, none⟩ (.bool false)) ⟨w.heap.size + 1, 5, none⟩ (.bool false)) ⟨w.heap.size + 1, 6, none⟩ (.bool true)) ⟨w.heap.size + 1, 7, none⟩ (.bool ha)) ⟨w.heap.size + 1, 8, none⟩ (.int .i64 p8)) ⟨w.heap.size + 1, 9, none⟩ (.int .i64 0)) ⟨w.heap.size + 1, 10, none⟩ (.bool false)) ⟨w.heap.size + 1, 11, none⟩ (.slice A2 l.length cap)) ⟨w.heap.size + 1, 12, none⟩ (.string ⟨#[]⟩)) = wf at *
        refine bodyPost_ret (v := .agg #[.int .i64 p0, .int .i64 p1, .int .i64 p2, .int .i64 a3, .bool false, .bool false, .bool true, .bool ha, .int .i64 p8, .int .i64 0, .bool false, .slice A2 l.length cap, .string ⟨#[]⟩]) ?_ rfl ⟨⟨p0, p1, p2, a3, false, false, true, ha, p8, 0, false, l, ⟨#[]⟩⟩, A2, cap, ⟨HVN.out, ⟨(fun q => by cases q), (fun q => by cases q), (fun _ => ⟨rfl, rfl⟩), .inl rfl⟩, HVB.out, by show VS _ _ _ _; unfold VS; rfl⟩, rfl, hbx, HBx⟩
        exact res_cell1 (P := Tryd.prog) (fn := Tryd.f7) rfl Hr2.out rfl Tryd.underlying24 rfl (by kernel_rfl)
      · have tok := trivial
        obtain ⟨kk, hkk⟩ : ∃ kk : Nat, min (s.size : Int) (1024 - 8 * (l.length : Int)) = (kk : Int) := ⟨(min (s.size : Int) (1024 - 8 * (l.length : Int))).toNat, by omega⟩
        have ki1 : (kk : Int) ≤ (s.size : Int) := by omega
        have ki2 : (0 : Int) ≤ (kk : Int) := by omega
        have ki3 : (kk : Int) + 8 * (l.length : Int) ≤ 1024 := by omega
        have hVS : Hid (VS false false (s.extract 0 kk).size l.length) := Lib.hid (by unfold VS; simp; omega)
        go_wp2_with fail
        have hbx := Hbk.out; have Hr2 := Hr; have Hs2 := Hs; have HBx := HB; clear Hr Hs HB Hx Hbk
        replace hbx := Bks.setT hbx (p := ⟨w.heap.size + 1 + 1, 5, none⟩) Hs2.out (by decide) (.bool true)
        have Hr3 := Lib.hid (block_set_other (a := ⟨w.heap.size + 1 + 1, 5, none⟩) (u := .bool true) Hr2.out (by simp)); clear Hr2; have Hr2 := Hr3; clear Hr3
        have Hs3 := Lib.hid (cells_eq (b := #[.int .i64 p0, .int .i64 p1, .int .i64 p2, .int .i64 a3, .bool false, .bool true, .bool false, .bool ha, .int .i64 p8, .int .i64 0, .bool false, .slice A2 l.length cap, .string ⟨#[]⟩]) (block_setCell (k := 5) (v := .bool true) Hs2.out) rfl); clear Hs2; have Hs2 := Hs3; clear Hs3
        replace HBx := Below.setCell (p := ⟨w.heap.size + 1 + 1, 5, none⟩) HBx (by first | (simp; done) | (simp; omega)) (.bool true)
        replace hbx := Bks.setT hbx (p := ⟨w.heap.size + 1 + 1, 12, none⟩) Hs2.out (by decide) (.string (s.extract 0 kk))
        have Hr3 := Lib.hid (block_set_other (a := ⟨w.heap.size + 1 + 1, 12, none⟩) (u := .string (s.extract 0 kk)) Hr2.out (by simp)); clear Hr2; have Hr2 := Hr3; clear Hr3
        have Hs3 := Lib.hid (cells_eq (b := #[.int .i64 p0, .int .i64 p1, .int .i64 p2, .int .i64 a3, .bool false, .bool true, .bool false, .bool ha, .int .i64 p8, .int .i64 0, .bool false, .slice A2 l.length cap, .string (s.extract 0 kk)]) (block_setCell (k := 12) (v := .string (s.extract 0 kk)) Hs2.out) rfl); clear Hs2; have Hs2 := Hs3; clear Hs3
        replace HBx := Below.setCell (p := ⟨w.heap.size + 1 + 1, 12, none⟩) HBx (by first | (simp; done) | (simp; omega)) (.string (s.extract 0 kk))
        replace HBx := Below.setCell (p := ⟨w.heap.size + 1, 0, none⟩) HBx (by simp) (.int .i64 p0); replace hbx := Bks.setT hbx (p := ⟨w.heap.size + 1, 0, none⟩) Hr2.out (by decide) (.int .i64 p0)
        have Hr3 := Lib.hid (cells_eq (b := #[.int .i64 p0, .int .i64 0, .int .i64 0, .int .i64 0, .bool false, .bool false, .bool false, .bool false, .int .i64 0, .int .i64 0, .bool false, .slice none 0 0, .string ⟨#[]⟩]) (block_setCell (k := 0) (v := .int .i64 p0) Hr2.out) rfl); clear Hr2; have Hr2 := Hr3; clear Hr3
        replace HBx := Below.setCell (p := ⟨w.heap.size + 1, 1, none⟩) HBx (by simp) (.int .i64 p1); replace hbx := Bks.setT hbx (p := ⟨w.heap.size + 1, 1, none⟩) Hr2.out (by decide) (.int .i64 p1)
        have Hr3 := Lib.hid (cells_eq (b := #[.int .i64 p0, .int .i64 p1, .int .i64 0, .int .i64 0, .bool false, .bool false, .bool false, .bool false, .int .i64 0, .int .i64 0, .bool false, .slice none 0 0, .string ⟨#[]⟩]) (block_setCell (k := 1) (v := .int .i64 p1) Hr2.out) rfl); clear Hr2; have Hr2 := Hr3; clear Hr3
        replace HBx := Below.setCell (p := ⟨w.heap.size + 1, 2, none⟩) HBx (by simp) (.int .i64 p2); replace hbx := Bks.setT hbx (p := ⟨w.heap.size + 1, 2, none⟩) Hr2.out (by decide) (.int .i64 p2)
        have Hr3 := Lib.hid (cells_eq (b := #[.int .i64 p0, .int .i64 p1, .int .i64 p2, .int .i64 0, .bool false, .bool false, .bool false, .bool false, .int .i64 0, .int .i64 0, .bool false, .slice none 0 0, .string ⟨#[]⟩]) (block_setCell (k := 2) (v := .int .i64 p2) Hr2.out) rfl); clear Hr2; have Hr2 := Hr3; clear Hr3
        replace HBx := Below.setCell (p := ⟨w.heap.size + 1, 3, none⟩) HBx (by simp) (.int .i64 a3); replace hbx := Bks.setT hbx (p := ⟨w.heap.size + 1, 3, none⟩) Hr2.out (by decide) (.int .i64 a3)
        have Hr3 := Lib.hid (cells_eq (b := #[.int .i64 p0, .int .i64 p1, .int .i64 p2, .int .i64 a3, .bool false, .bool false, .bool false, .bool false, .int .i64 0, .int .i64 0, .bool false, .slice none 0 0, .string ⟨#[]⟩]) (block_setCell (k := 3) (v := .int .i64 a3) Hr2.out) rfl); clear Hr2; have Hr2 := Hr3; clear Hr3
        replace HBx := Below.setCell (p := ⟨w.heap.size + 1, 4, none⟩) HBx (by simp) (.bool false); replace hbx := Bks.setT hbx (p := ⟨w.heap.size + 1, 4, none⟩) Hr2.out (by decide) (.bool false)
        have Hr3 := Lib.hid (cells_eq (b := #[.int .i64 p0, .int .i64 p1, .int .i64 p2, .int .i64 a3, .bool false, .bool false, .bool false, .bool false, .int .i64 0, .int .i64 0, .bool false, .slice none 0 0, .string ⟨#[]⟩]) (block_setCell (k := 4) (v := .bool false) Hr2.out) rfl); clear Hr2; have Hr2 := Hr3; clear Hr3
        replace HBx := Below.setCell (p := ⟨w.heap.size + 1, 5, none⟩) HBx (by simp) (.bool true); replace hbx := Bks.setT hbx (p := ⟨w.heap.size + 1, 5, none⟩) Hr2.out (by decide) (.bool true)
        have Hr3 := Lib.hid (cells_eq (b := #[.int .i64 p0, .int .i64 p1, .int .i64 p2, .int .i64 a3, .bool false, .bool true, .bool false, .bool false, .int .i64 0, .int .i64 0, .bool false, .slice none 0 0, .string ⟨#[]⟩]) (block_setCell (k := 5) (v := .bool true) Hr2.out) rfl); clear Hr2; have Hr2 := Hr3; clear Hr3
        replace HBx := Below.setCell (p := ⟨w.heap.size + 1, 6, none⟩) HBx (by simp) (.bool false); replace hbx := Bks.setT hbx (p := ⟨w.heap.size + 1, 6, none⟩) Hr2.out (by decide) (.bool false)
        have Hr3 := Lib.hid (cells_eq (b := #[.int .i64 p0, .int .i64 p1, .int .i64 p2, .int .i64 a3, .bool false, .bool true, .bool false, .bool false, .int .i64 0, .int .i64 0, .bool false, .slice none 0 0, .string ⟨#[]⟩]) (block_setCell (k := 6) (v := .bool false) Hr2.out) rfl); clear Hr2; have Hr2 := Hr3; clear Hr3
        replace HBx := Below.setCell (p := ⟨w.heap.size + 1, 7, none⟩) HBx (by simp) (.bool ha); replace hbx := Bks.setT hbx (p := ⟨w.heap.size + 1, 7, none⟩) Hr2.out (by decide) (.bool ha)
        have Hr3 := Lib.hid (cells_eq (b := #[.int .i64 p0, .int .i64 p1, .int .i64 p2, .int .i64 a3, .bool false, .bool true, .bool false, .bool ha, .int .i64 0, .int .i64 0, .bool false, .slice none 0 0, .string ⟨#[]⟩]) (block_setCell (k := 7) (v := .bool ha) Hr2.out) rfl); clear Hr2; have Hr2 := Hr3; clear Hr3
        replace HBx := Below.setCell (p := ⟨w.heap.size + 1, 8, none⟩) HBx (by simp) (.int .i64 p8); replace hbx := Bks.setT hbx (p := ⟨w.heap.size + 1, 8, none⟩) Hr2.out (by decide) (.int .i64 p8)
        have Hr3 := Lib.hid (cells_eq (b := #[.int .i64 p0, .int .i64 p1, .int .i64 p2, .int .i64 a3, .bool false, .bool true, .bool false, .bool ha, .int .i64 p8, .int .i64 0, .bool false, .slice none 0 0, .string ⟨#[]⟩]) (block_setCell (k := 8) (v := .int .i64 p8) Hr2.out) rfl); clear Hr2; have Hr2 := Hr3; clear Hr3
        replace HBx := Below.setCell (p := ⟨w.heap.size + 1, 9, none⟩) HBx (by simp) (.int .i64 0); replace hbx := Bks.setT hbx (p := ⟨w.heap.size + 1, 9, none⟩) Hr2.out (by decide) (.int .i64 0)
        have Hr3 := Lib.hid (cells_eq (b := #[.int .i64 p0, .int .i64 p1, .int .i64 p2, .int .i64 a3, .bool false, .bool true, .bool false, .bool ha, .int .i64 p8, .int .i64 0, .bool false, .slice none 0 0, .string ⟨#[]⟩]) (block_setCell (k := 9) (v := .int .i64 0) Hr2.out) rfl); clear Hr2; have Hr2 := Hr3; clear Hr3
        replace HBx := Below.setCell (p := ⟨w.heap.size + 1, 10, none⟩) HBx (by simp) (.bool false); replace hbx := Bks.setT hbx (p := ⟨w.heap.size + 1, 10, none⟩) Hr2.out (by decide) (.bool false)
        have Hr3 := Lib.hid (cells_eq (b := #[.int .i64 p0, .int .i64 p1, .int .i64 p2, .int .i64 a3, .bool false, .bool true, .bool false, .bool ha, .int .i64 p8, .int .i64 0, .bool false, .slice none 0 0, .string ⟨#[]⟩]) (block_setCell (k := 10) (v := .bool false) Hr2.out) rfl); clear Hr2; have Hr2 := Hr3; clear Hr3
        replace HBx := Below.setCell (p := ⟨w.heap.size + 1, 11, none⟩) HBx (by simp) (.slice A2 l.length cap); replace hbx := Bks.setT hbx (p := ⟨w.heap.size + 1, 11, none⟩) Hr2.out (by decide) (.slice A2 l.length cap)
        have Hr3 := Lib.hid (cells_eq (b := #[.int .i64 p0, .int .i64 p1, .int .i64 p2, .int .i64 a3, .bool false, .bool true, .bool false, .bool ha, .int .i64 p8, .int .i64 0, .bool false, .slice A2 l.length cap, .string ⟨#[]⟩]) (block_setCell (k := 11) (v := .slice A2 l.length cap) Hr2.out) rfl); clear Hr2; have Hr2 := Hr3; clear Hr3
        replace HBx := Below.setCell (p := ⟨w.heap.size + 1, 12, none⟩) HBx (by simp) (.string (s.extract 0 kk)); replace hbx := Bks.setT hbx (p := ⟨w.heap.size + 1, 12, none⟩) Hr2.out (by decide) (.string (s.extract 0 kk))
        have Hr3 := Lib.hid (cells_eq (b := #[.int .i64 p0, .int .i64 p1, .int .i64 p2, .int .i64 a3, .bool false, .bool true, .bool false, .bool ha, .int .i64 p8, .int .i64 0, .bool false, .slice A2 l.length cap, .string (s.extract 0 kk)]) (block_setCell (k := 12) (v := .string (s.extract 0 kk)) Hr2.out) rfl); clear Hr2; have Hr2 := Hr3; clear Hr3
        generalize (World.setCell (World.setCell (World.setCell (World.setCell (World.setCell (World.setCell (World.setCell (World.setCell (World.setCell (World.setCell (World.setCell (World.setCell (World.setCell (World.setCell (World.setCell wx ⟨w.heap.size + 1 + 1, 5, none⟩ (.bool true)) ⟨w.heap.size + 1 + 1, 12, none⟩ (.string (s.extract 0 kk))) ⟨w.heap.size + 1, 0, none⟩ (.int .i64 p0)) ⟨w.heap.size + 1, 1, none⟩ (.int .i64 p1)) ⟨w.heap.size + 1, 2, none⟩ (.int .i64 p2)) ⟨w.heap.size + 1, 3, none⟩ (.int .i64 a3)) ⟨w.heap.size + 1, 4, none⟩ (.bool false)) ⟨w.heap.size + 1, 5, none⟩ (.bool true)) ⟨w.heap.size + 1, 6, none⟩ (.bool false)) ⟨w.heap.size + 1, 7, none⟩ (.bool ha)) ⟨w.heap.size + 1, 8, none⟩ (.int .i64 p8)) ⟨w.heap.size + 1, 9, none⟩ (.int .i64 0)) ⟨w.heap.size + 1, 10, none⟩ (.bool false)) ⟨w.heap.size + 1, 11, none⟩ (.slice A2 l.length cap)) ⟨w.heap.size + 1, 12, none⟩ (.string (s.extract 0 kk))) = wf at *
        refine bodyPost_ret (v := .agg #[.int .i64 p0, .int .i64 p1, .int .i64 p2, .int .i64 a3, .bool false, .bool true, .bool false, .bool ha, .int .i64 p8, .int .i64 0, .bool false, .slice A2 l.length cap, .string (s.extract 0 kk)]) ?_ rfl ⟨⟨p0, p1, p2, a3, false, true, false, ha, p8, 0, false, l, s.extract 0 kk⟩, A2, cap, ⟨HVN.out, ⟨(fun q => by cases q), (fun _ => rfl), (fun _ => ⟨rfl, rfl⟩), .inl rfl⟩, HVB.out, hVS.out⟩, rfl, hbx, HBx⟩
        exact res_cell1 (P := Tryd.prog) (fn := Tryd.f7) rfl Hr2.out rfl Tryd.underlying24 rfl (by kernel_rfl)
      · have tok := trivial
        obtain ⟨kk, hkk⟩ : ∃ kk : Nat, min (s.size : Int) (1024 - 8 * (l.length : Int)) = (kk : Int) := ⟨(min (s.size : Int) (1024 - 8 * (l.length : Int))).toNat, by omega⟩
        have ki1 : (kk : Int) ≤ (s.size : Int) := by omega
        have ki2 : (0 : Int) ≤ (kk : Int) := by omega
        have ki3 : (kk : Int) + 8 * (l.length : Int) ≤ 1024 := by omega
        have hVS : Hid (VS false false (s.extract 0 kk).size l.length) := Lib.hid (by unfold VS; simp; omega)
        have z0 : (q == 0) = false := beq_eq_false_iff_ne.2 (by omega)
        have z1 : (q == 1) = false := beq_eq_false_iff_ne.2 (by omega)
        have z2 : (q == 2) = false := beq_eq_false_iff_ne.2 (by omega)
        clear hq
        go_wp2_with fail
        have hbx := Hbk.out; have Hr2 := Hr; have Hs2 := Hs; have HBx := HB; clear Hr Hs HB Hx Hbk
        replace hbx := Bks.setT hbx (p := ⟨w.heap.size + 1 + 1, 12, none⟩) Hs2.out (by decide) (.string (s.extract 0 kk))
        have Hr3 := Lib.hid (block_set_other (a := ⟨w.heap.size + 1 + 1, 12, none⟩) (u := .string (s.extract 0 kk)) Hr2.out (by simp)); clear Hr2; have Hr2 := Hr3; clear Hr3
        have Hs3 := Lib.hid (cells_eq (b := #[.int .i64 p0, .int .i64 p1, .int .i64 p2, .int .i64 a3, .bool false, .bool false, .bool false, .bool ha, .int .i64 p8, .int .i64 0, .bool false, .slice A2 l.length cap, .string (s.extract 0 kk)]) (block_setCell (k := 12) (v := .string (s.extract 0 kk)) Hs2.out) rfl); clear Hs2; have Hs2 := Hs3; clear Hs3
        replace HBx := Below.setCell (p := ⟨w.heap.size + 1 + 1, 12, none⟩) HBx (by first | (simp; done) | (simp; omega)) (.string (s.extract 0 kk))
        replace HBx := Below.setCell (p := ⟨w.heap.size + 1, 0, none⟩) HBx (by simp) (.int .i64 p0); replace hbx := Bks.setT hbx (p := ⟨w.heap.size + 1, 0, none⟩) Hr2.out (by decide) (.int .i64 p0)
        have Hr3 := Lib.hid (cells_eq (b := #[.int .i64 p0, .int .i64 0, .int .i64 0, .int .i64 0, .bool false, .bool false, .bool false, .bool false, .int .i64 0, .int .i64 0, .bool false, .slice none 0 0, .string ⟨#[]⟩]) (block_setCell (k := 0) (v := .int .i64 p0) Hr2.out) rfl); clear Hr2; have Hr2 := Hr3; clear Hr3
        replace HBx := Below.setCell (p := ⟨w.heap.size + 1, 1, none⟩) HBx (by simp) (.int .i64 p1); replace hbx := Bks.setT hbx (p := ⟨w.heap.size + 1, 1, none⟩) Hr2.out (by decide) (.int .i64 p1)
        have Hr3 := Lib.hid (cells_eq (b := #[.int .i64 p0, .int .i64 p1, .int .i64 0, .int .i64 0, .bool false, .bool false, .bool false, .bool false, .int .i64 0, .int .i64 0, .bool false, .slice none 0 0, .string ⟨#[]⟩]) (block_setCell (k := 1) (v := .int .i64 p1) Hr2.out) rfl); clear Hr2; have Hr2 := Hr3; clear Hr3
        replace HBx := Below.setCell (p := ⟨w.heap.size + 1, 2, none⟩) HBx (by simp) (.int .i64 p2); replace hbx := Bks.setT hbx (p := ⟨w.heap.size + 1, 2, none⟩) Hr2.out (by decide) (.int .i64 p2)
        have Hr3 := Lib.hid (cells_eq (b := #[.int .i64 p0, .int .i64 p1, .int .i64 p2, .int .i64 0, .bool false, .bool false, .bool false, .bool false, .int .i64 0, .int .i64 0, .bool false, .slice none 0 0, .string ⟨#[]⟩]) (block_setCell (k := 2) (v := .int .i64 p2) Hr2.out) rfl); clear Hr2; have Hr2 := Hr3; clear Hr3
        replace HBx := Below.setCell (p := ⟨w.heap.size + 1, 3, none⟩) HBx (by simp) (.int .i64 a3); replace hbx := Bks.setT hbx (p := ⟨w.heap.size + 1, 3, none⟩) Hr2.out (by decide) (.int .i64 a3)
        have Hr3 := Lib.hid (cells_eq (b := #[.int .i64 p0, .int .i64 p1, .int .i64 p2, .int .i64 a3, .bool false, .bool false, .bool false, .bool false, .int .i64 0, .int .i64 0, .bool false, .slice none 0 0, .string ⟨#[]⟩]) (block_setCell (k := 3) (v := .int .i64 a3) Hr2.out) rfl); clear Hr2; have Hr2 := Hr3; clear Hr3
        replace HBx := Below.setCell (p := ⟨w.heap.size + 1, 4, none⟩) HBx (by simp) (.bool false); replace hbx := Bks.setT hbx (p := ⟨w.heap.size + 1, 4, none⟩) Hr2.out (by decide) (.bool false)
        have Hr3 := Lib.hid (cells_eq (b := #[.int .i64 p0, .int .i64 p1, .int .i64 p2, .int .i64 a3, .bool false, .bool false, .bool false, .bool false, .int .i64 0, .int .i64 0, .bool false, .slice none 0 0, .string ⟨#[]⟩]) (block_setCell (k := 4) (v := .bool false) Hr2.out) rfl); clear Hr2; have Hr2 := Hr3; clear Hr3
        replace HBx := Below.setCell (p := ⟨w.heap.size + 1, 5, none⟩) HBx (by simp) (.bool false); replace hbx := Bks.setT hbx (p := ⟨w.heap.size + 1, 5, none⟩) Hr2.out (by decide) (.bool false)
        have Hr3 := Lib.hid (cells_eq (b := #[.int .i64 p0, .int .i64 p1, .int .i64 p2, .int .i64 a3, .bool false, .bool false, .bool false, .bool false, .int .i64 0, .int .i64 0, .bool false, .slice none 0 0, .string ⟨#[]⟩]) (block_setCell (k := 5) (v := .bool false) Hr2.out) rfl); clear Hr2; have Hr2 := Hr3; clear Hr3
        replace HBx := Below.setCell (p := ⟨w.heap.size + 1, 6, none⟩) HBx (by simp) (.bool false); replace hbx := Bks.setT hbx (p := ⟨w.heap.size + 1, 6, none⟩) Hr2.out (by decide) (.bool false)
        have Hr3 := Lib.hid (cells_eq (b := #[.int .i64 p0, .int .i64 p1, .int .i64 p2, .int .i64 a3, .bool false, .bool false, .bool false, .bool false, .int .i64 0, .int .i64 0, .bool false, .slice none 0 0, .string ⟨#[]⟩]) (block_setCell (k := 6) (v := .bool false) Hr2.out) rfl); clear Hr2; have Hr2 := Hr3; clear Hr3
        replace HBx := Below.setCell (p := ⟨w.heap.size + 1, 7, none⟩) HBx (by simp) (.bool ha); replace hbx := Bks.setT hbx (p := ⟨w.heap.size + 1, 7, none⟩) Hr2.out (by decide) (.bool ha)
        have Hr3 := Lib.hid (cells_eq (b := #[.int .i64 p0, .int .i64 p1, .int .i64 p2, .int .i64 a3, .bool false, .bool false, .bool false, .bool ha, .int .i64 0, .int .i64 0, .bool false, .slice none 0 0, .string ⟨#[]⟩]) (block_setCell (k := 7) (v := .bool ha) Hr2.out) rfl); clear Hr2; have Hr2 := Hr3; clear Hr3
        replace HBx := Below.setCell (p := ⟨w.heap.size + 1, 8, none⟩) HBx (by simp) (.int .i64 p8); replace hbx := Bks.setT hbx (p := ⟨w.heap.size + 1, 8, none⟩) Hr2.out (by decide) (.int .i64 p8)
        have Hr3 := Lib.hid (cells_eq (b := #[.int .i64 p0, .int .i64 p1, .int .i64 p2, .int .i64 a3, .bool false, .bool false, .bool false, .bool ha, .int .i64 p8, .int .i64 0, .bool false, .slice none 0 0, .string ⟨#[]⟩]) (block_setCell (k := 8) (v := .int .i64 p8) Hr2.out) rfl); clear Hr2; have Hr2 := Hr3; clear Hr3
        replace HBx := Below.setCell (p := ⟨w.heap.size + 1, 9, none⟩) HBx (by simp) (.int .i64 0); replace hbx := Bks.setT hbx (p := ⟨w.heap.size + 1, 9, none⟩) Hr2.out (by decide) (.int .i64 0)
        have Hr3 := Lib.hid (cells_eq (b := #[.int .i64 p0, .int .i64 p1, .int .i64 p2, .int .i64 a3, .bool false, .bool false, .bool false, .bool ha, .int .i64 p8, .int .i64 0, .bool false, .slice none 0 0, .string ⟨#[]⟩]) (block_setCell (k := 9) (v := .int .i64 0) Hr2.out) rfl); clear Hr2; have Hr2 := Hr3; clear Hr3
        replace HBx := Below.setCell (p := ⟨w.heap.size + 1, 10, none⟩) HBx (by simp) (.bool false); replace hbx := Bks.setT hbx (p := ⟨w.heap.size + 1, 10, none⟩) Hr2.out (by decide) (.bool false)
        have Hr3 := Lib.hid (cells_eq (b := #[.int .i64 p0, .int .i64 p1, .int .i64 p2, .int .i64 a3, .bool false, .bool false, .bool false, .bool ha, .int .i64 p8, .int .i64 0, .bool false, .slice none 0 0, .string ⟨#[]⟩]) (block_setCell (k := 10) (v := .bool false) Hr2.out) rfl); clear Hr2; have Hr2 := Hr3; clear Hr3
        replace HBx := Below.setCell (p := ⟨w.heap.size + 1, 11, none⟩) HBx (by simp) (.slice A2 l.length cap); replace hbx := Bks.setT hbx (p := ⟨w.heap.size + 1, 11, none⟩) Hr2.out (by decide) (.slice A2 l.length cap)
        have Hr3 := Lib.hid (cells_eq (b := #[.int .i64 p0, .int .i64 p1, .int .i64 p2, .int .i64 a3, .bool false, .bool false, .bool false, .bool ha, .int .i64 p8, .int .i64 0, .bool false, .slice A2 l.length cap, .string ⟨#[]⟩]) (block_setCell (k := 11) (v := .slice A2 l.length cap) Hr2.out) rfl); clear Hr2; have Hr2 := Hr3; clear Hr3
        replace HBx := Below.setCell (p := ⟨w.heap.size + 1, 12, none⟩) HBx (by simp) (.string (s.extract 0 kk)); replace hbx := Bks.setT hbx (p := ⟨w.heap.size + 1, 12, none⟩) Hr2.out (by decide) (.string (s.extract 0 kk))
        have Hr3 := Lib.hid (cells_eq (b := #[.int .i64 p0, .int .i64 p1, .int .i64 p2, .int .i64 a3, .bool false, .bool false, .bool false, .bool ha, .int .i64 p8, .int .i64 0, .bool false, .slice A2 l.length cap, .string (s.extract 0 kk)]) (block_setCell (k := 12) (v := .string (s.extract 0 kk)) Hr2.out) rfl); clear Hr2; have Hr2 := Hr3; clear Hr3
        generalize (World.setCell (World.setCell (World.setCell (World.setCell (World.setCell (World.setCell (World.setCell (World.setCell (World.setCell (World.setCell (World.setCell (World.setCell (World.setCell (World.setCell wx ⟨w.heap.size + 1 + 1, 12, none⟩ (.string (s.extract 0 kk))) ⟨w.heap.size + 1, 0, none⟩ (.int .i64 p0)) ⟨w.heap.size + 1, 1, none⟩ (.int .i64 p1)) ⟨w.heap.size + 1, 2, none⟩ (.int .i64 p2)) ⟨w.heap.size + 1, 3, none⟩ (.int .i64 a3)) ⟨w.heap.size + 1, 4, none⟩ (.bool false)) ⟨w.heap.size + 1, 5, none⟩ (.bool false)) ⟨w.heap.size + 1, 6, none⟩ (.bool false)) ⟨w.heap.size + 1, 7, none⟩ (.bool ha)) ⟨w.heap.size + 1, 8, none⟩ (.int .i64 p8)) ⟨w.heap.size + 1, 9, none⟩ (.int .i64 0)) ⟨w.heap.size + 1, 10, none⟩ (.bool false)) ⟨w.heap.size + 1, 11, none⟩ (.slice A2 l.length cap)) ⟨w.heap.size + 1, 12, none⟩ (.string (s.extract 0 kk))) = wf at *
        refine bodyPost_ret (v := .agg #[.int .i64 p0, .int .i64 p1, .int .i64 p2, .int .i64 a3, .bool false, .bool false, .bool false, .bool ha, .int .i64 p8, .int .i64 0, .bool false, .slice A2 l.length cap, .string (s.extract 0 kk)]) ?_ rfl ⟨⟨p0, p1, p2, a3, false, false, false, ha, p8, 0, false, l, s.extract 0 kk⟩, A2, cap, ⟨HVN.out, ⟨(fun q => by cases q), (fun q => by cases q), (fun _ => ⟨rfl, rfl⟩), .inl rfl⟩, HVB.out, hVS.out⟩, rfl, hbx, HBx⟩
        exact res_cell1 (P := Tryd.prog) (fn := Tryd.f7) rfl Hr2.out rfl Tryd.underlying24 rfl (by kernel_rfl)
end Go.Proofs.YtmgjcjacoegocaaDoor.Sg
