/-
  The joins of chapter 10: the helpers parts and turned (several texts in one).
-/
import Derived.Test.YtmeldgnjgogacaaReInd
import Derived.Test.YtmeldgnjgogacaaJnUdp
import Derived.Test.YtmeldgnjgogacaaJnIp
import Derived.Deep.RegionHeld3
import Derived.StillTailTactics
import Derived.Test.YtmeldgnjgogacaaRows
import Derived.Test.YtmeldgnjgogacaaBase1
import Derived.Deep.SlicePairs
import Derived.ChangeArms
import Derived.OpenShut
import Derived.Deep.RegionLawGrows
import Derived.Test.YtmeldgnjgogacaaHeld
import Derived.Deep.AppendLies
namespace Go.Proofs.Ytmeldgnjgogacaa.Re
set_option maxRecDepth 100000
open Go.RowKit Go.Proofs.Ytmeldgnjgogacaa.Wire
open Go.Proofs.Ytmeldgnjgogacaa.Ip (Pk pieceAt count frags count_lt)

/-- a datagram that is carried in fragments of n bytes -/
structure Whole (p : Pk) (n : Nat) : Prop where
  cut : CutP p n
  df : p.df = false
  val : vldB p = true
  n8 : n % 8 = 0
theorem Whole.out {p : Pk} {n : Nat} (h : Whole p n) : outP p = p := by
  have h1 := h.cut.off; have h2 := h.cut.mf; have h3 := h.df
  obtain ⟨a, b, c, d, e, f, g, i, j⟩ := p
  unfold outP
  dsimp only at *
  rw [h1, h2, h3]
theorem Whole.piece {p : Pk} {n k : Nat} (h : Whole p n) (hk : k < count p n) : vldB (pieceAt p n k) = true :=
  piece_valid h.val h.df n k h.n8 h.cut.n0 ((count_lt p n k h.cut.n0).1 hk)
/-- the state of the datagram p when i fragments of the list all have come -/
def JP (p : Pk) (n : Nat) (all : List Pk) (i : Nat) (once : Bool) (A : List (Ky × Hf)) : Prop :=
  ∃ (C : Nat → Bool) (S : List Nat), (∀ now, Good p n C ((look A (keyOf p)).getD (newF now))) ∧ (∃ j, j < count p n ∧ C j = false) ∧ S.length ≤ i ∧ (∀ j, C j = true → j ∈ S) ∧
    (once = true ∨ ∀ j, j < i → ∀ P, all[j]? = some P → ∃ k, k < count p n ∧ P = pieceAt p n k ∧ C k = true)
theorem JP.start {p : Pk} {n : Nat} (h : CutP p n) (all : List Pk) : JP p n all 0 false [] :=
  ⟨fun _ => false, [], fun now => by rw [look_nil]; exact good_new now, ⟨0, by have := h.m2; omega, rfl⟩, Nat.le_refl _, (fun j hj => by cases hj), .inr fun j hj => absurd hj (Nat.not_lt_zero _)⟩
theorem JP.congr {p : Pk} {n : Nat} {all : List Pk} {i : Nat} {once : Bool} {A A' : List (Ky × Hf)} (h : JP p n all i once A) (e : look A' (keyOf p) = look A (keyOf p)) : JP p n all i once A' := by
  obtain ⟨C, S, h1, h2⟩ := h
  exact ⟨C, S, fun now => by rw [e]; exact h1 now, h2⟩
theorem JP.put {p : Pk} {n : Nat} (hw : Whole p n) {all : List Pk} {i : Nat} {once : Bool} {A : List (Ky × Hf)} (hn : NK A) (h : JP p n all i once A) {P : Pk} (hP : all[i]? = some P) {k : Nat} (hk : k < count p n) (hPk : P = pieceAt p n k) (now : Int) :
    ∃ A' q ok, putA A now P = (A', q, ok, 0) ∧ NK A' ∧ JP p n all (i + 1) (once || ok) A' ∧ (ok = true → q = p ∧ count p n ≤ i + 1) ∧ (∀ k', k' ≠ keyOf p → look A' k' = look A k') ∧ ∀ x ∈ A', x ∈ A ∨ x.1 = keyOf p := by
  subst hPk
  obtain ⟨C, S, h1, ⟨j0, hj0, hC0⟩, h3, h4, h5⟩ := h
  obtain ⟨A', n', l', z', m', hres⟩ := put_good hw.cut hn (now := now) (h1 now) hk (hw.piece hk)
  rcases hres with ⟨hall, hput, hl⟩ | ⟨⟨j, hj, hcj, hjk⟩, hput, H, hl, hgH⟩
  · refine ⟨A', _, true, hput, n', ⟨fun _ => false, [], fun now' => by rw [hl]; exact good_new now', ⟨0, by have := hw.cut.m2; omega, rfl⟩, Nat.zero_le _, (fun j hj => by cases hj), .inl (by simp)⟩, fun _ => ⟨hw.out, ?_⟩, l', m'⟩
    have hs := nodup_sub (List.range (count p n)) (k :: S) List.nodup_range (fun x hx => by
      have hx := List.mem_range.1 hx
      rcases hall x hx with q | q
      · exact List.mem_cons_of_mem _ (h4 x q)
      · rw [q]; exact List.mem_cons_self ..)
    simp at hs
    omega
  · refine ⟨A', _, false, hput, n', ⟨fun i => C i || decide (i = k), k :: S, fun now' => by rw [hl]; exact hgH, ⟨j, hj, by show (C j || decide (j = k)) = false; rw [hcj, decide_eq_false hjk]; rfl⟩, by simp; omega, fun x hx => ?_, ?_⟩, (fun e => by cases e), l', m'⟩
    · rw [Bool.or_eq_true, decide_eq_true_eq] at hx
      rcases hx with q | q
      · exact List.mem_cons_of_mem _ (h4 x q)
      · rw [q]; exact List.mem_cons_self ..
    · rw [Bool.or_false]
      rcases h5 with q | q
      · exact .inl q
      · refine .inr fun x hx P' hP' => ?_
        rcases Nat.lt_or_ge x i with r | r
        · obtain ⟨y, e1, e2, e3⟩ := q x r P' hP'
          exact ⟨y, e1, e2, by show (C y || decide (y = k)) = true; rw [e3]; rfl⟩
        · obtain rfl : x = i := by omega
          rw [hP] at hP'
          cases hP'
          exact ⟨k, hk, rfl, by simp⟩
theorem piece_inj {p : Pk} {n : Nat} (h : CutP p n) {j k : Nat} (e : pieceAt p n j = pieceAt p n k) : j = k := by
  have h1 := piece_off h j
  rw [e, piece_off h k] at h1
  have h2 : n * k = n * j := by omega
  exact (Nat.eq_of_mul_eq_mul_left h.n0 h2).symm
/-- when all have come, the datagram has come -/
theorem JP.done {p : Pk} {n : Nat} (hw : Whole p n) {all : List Pk} {once : Bool} {A : List (Ky × Hf)} (h : JP p n all all.length once A) (hall : ∀ k, k < count p n → pieceAt p n k ∈ all) : once = true := by
  obtain ⟨C, S, h1, ⟨j0, hj0, hC0⟩, h3, h4, h5⟩ := h
  rcases h5 with q | q
  · exact q
  · exfalso
    obtain ⟨x, hx, e⟩ := List.getElem_of_mem (hall j0 hj0)
    obtain ⟨y, e1, e2, e3⟩ := q x hx _ (by rw [List.getElem?_eq_getElem hx, e])
    have := piece_inj hw.cut e2
    subst this
    rw [hC0] at e3; cases e3
theorem frags_mem {p : Pk} {n : Nat} {P : Pk} (h : P ∈ frags p n (count p n)) : ∃ k, k < count p n ∧ P = pieceAt p n k := by
  unfold frags at h
  obtain ⟨k, hk, rfl⟩ := List.mem_map.1 h
  exact ⟨k, List.mem_range.1 hk, rfl⟩
theorem mem_frags {p : Pk} {n k : Nat} (h : k < count p n) : pieceAt p n k ∈ frags p n (count p n) := List.mem_map.2 ⟨k, List.mem_range.2 h, rfl⟩
end Go.Proofs.Ytmeldgnjgogacaa.Re

namespace Go.Proofs.Ytmeldgnjgogacaa.Re
set_option maxRecDepth 100000
open Go.RowKit Go.Proofs.Ytmeldgnjgogacaa.Wire
open Go.Proofs.Ytmeldgnjgogacaa.Ip (Pk pieceAt count frags count_lt)

theorem res_tmp_cell {P : Program} {fn : Func} {p q : Tmp} {ty : TypeId} (h : fn.results = #[.tmp q, .cell p ty]) {tmps : Array Value} {w : World} {g : Nat} {t : TypeId} {cs : Array Value} {fr : Nat × Nat} {d : TypeDesc}
    (hg : w.heap[g]? = some (.cells cs t fr)) (hp : tmps.getD p undef = .pointer (some ⟨g, 0, none⟩))
    (hu : P.underlying ty = some d) (hd : (match d with | .struct _ | .array _ _ => true | _ => false) = true) (hi : (P.info? ty).map (·.size) = some cs.size) :
    (results fn tmps).run P w = .ok (.tuple #[tmps.getD q undef, .agg cs]) w := by
  have hp' : tmps[p]?.getD undef = .pointer (some ⟨g, 0, none⟩) := by simpa using hp
  simp [results, h, hp', asAddr, run_loadVar_row w g t ty cs fr d hg hu hd hi]
theorem prow_drew {W : World} {lo : Nat} {A : Option Addr} {c : Nat} {l : List Pk} (h : PRow W lo A c l) : PRow W.drew lo A c l := h.kept (fun _ _ => rfl)
theorem prow_mono {W : World} {lo lo' : Nat} {A : Option Addr} {c : Nat} {l : List Pk} (h : PRow W lo A c l) (hl : lo' ≤ lo) : PRow W lo' A c l := by
  refine ⟨h.1, ?_⟩
  rcases h.2 with q | ⟨g', cap', cur, e, q1, q2⟩
  · exact .inl q
  · exact .inr ⟨g', cap', cur, e, by omega, q2⟩
set_option maxHeartbeats 8000000 in
theorem parts_no (x0 x1 x2 x3 x4 : Int) (xs : ByteArray) (id size fp0 tp fu tu pid z : Int) (D E S0 : ByteArray) (L : List Pk) (w : World)
    (hA0 : ∀ W, Calls Try.prog 55 #[.int .i64 x0] W fun e w' => e = .returned (.int .i64 fp0) ∧ W = w') (hA1 : ∀ W, Calls Try.prog 55 #[.int .i64 x1] W fun e w' => e = .returned (.int .i64 tp) ∧ W = w')
    (hD : ∀ W, Calls Try.prog 53 #[.agg #[.int .i64 x0, .int .i64 x1, .int .i64 x2, .int .i64 x3, .int .i64 x4, .string xs]] W fun e w' => e = .returned (.agg #[.int .i64 fu, .int .i64 tu, .string D]) ∧ Below W.heap.size W w') (hP : ∀ W, Calls Try.prog 54 #[.string D, .int .i64 (100 + (D.size : Int))] W fun e w' => e = .returned (.string E) ∧ Below W.heap.size W w')
    (hE0 : ∀ W, Calls Try.prog 51 #[.int .i64 fp0, .int .i64 tp, .agg #[.int .i64 fu, .int .i64 tu, .string E]] W fun e w' => e = .returned (.tuple #[.string S0, .int .i64 0]) ∧ Below W.heap.size W w')
    (hI : ∀ W, Calls Try.prog 31 #[.int .i64 id, .int .i64 65536] W fun e w' => e = .returned (.int .i64 pid) ∧ W = w') (hZ : ∀ W, Calls Try.prog 31 #[.int .i64 size, .int .i64 60] W fun e w' => e = .returned (.int .i64 z) ∧ W = w') (hz : 0 ≤ z ∧ z < 60) (hDs : D.size ≤ 200)
    (hall : (fp0 == 4294967295) = false)
    (hF : ∀ W, Calls Try.prog 56 #[.agg #[.int .i64 fp0, .int .i64 tp, .int .i64 17, .int .i64 9, .int .i64 pid, .bool false, .bool false, .int .i64 0, .string S0], .int .i64 (68 + z)] W fun e w' => (∃ B c, e = .returned (.tuple #[.slice B L.length c, .int .i64 0]) ∧ PRow w' W.heap.size B c L) ∧ Below W.heap.size W w') :
    Calls Try.prog 28 #[.agg #[.int .i64 x0, .int .i64 x1, .int .i64 x2, .int .i64 x3, .int .i64 x4, .string xs], .int .i64 id, .int .i64 size] w fun e w' => (∃ B c, e = .returned (.tuple #[.slice B L.length c, .agg #[.int .i64 fp0, .int .i64 tp, .int .i64 17, .int .i64 9, .int .i64 pid, .bool false, .bool false, .int .i64 0, .string S0]]) ∧ PRow w' w.heap.size B c L) ∧ Below w.heap.size w w' := by
  have HA0q := Lib.hid (fun W => (hA0 W).mono fun e w' hv => (show e = .returned (.int .i64 fp0) ∧ W = w' from hv))
  have HA1q := Lib.hid (fun W => (hA1 W).mono fun e w' hv => (show e = .returned (.int .i64 tp) ∧ W = w' from hv))
  have HZq := Lib.hid hZ
  have HIq := Lib.hid (fun W => (hI W).mono fun e w' hv => (show e = .returned (.int .i64 pid) ∧ W = w' from hv))
  have HA0 := Lib.hid (fun W => (hA0 W).mono fun e w' hv => (show e = .returned (.int .i64 fp0) ∧ Below W.heap.size W w' from ⟨hv.1, by rw [← hv.2]; exact Below.refl _ _⟩))
  have HA1 := Lib.hid (fun W => (hA1 W).mono fun e w' hv => (show e = .returned (.int .i64 tp) ∧ Below W.heap.size W w' from ⟨hv.1, by rw [← hv.2]; exact Below.refl _ _⟩))
  have HZ := Lib.hid (fun W => (hZ W).mono fun e w' hv => (show e = .returned (.int .i64 z) ∧ Below W.heap.size W w' from ⟨hv.1, by rw [← hv.2]; exact Below.refl _ _⟩))
  have HD := Lib.hid hD; have HP := Lib.hid hP; have HE0 := Lib.hid hE0; have HF := Lib.hid hF
  clear hA0 hA1 hD hP hE0 hI hZ hF
  have HB := Below.refl w.heap.size w
  have HX := Lib.hid (alloc_new' w (.cells #[.int .i64 x0, .int .i64 x1, .int .i64 x2, .int .i64 x3, .int .i64 x4, .string xs] 58) (w.heap.size) (by simp))
  have HB' := below_alloc (o := .cells #[.int .i64 x0, .int .i64 x1, .int .i64 x2, .int .i64 x3, .int .i64 x4, .string xs] 58) HB; clear HB; have HB := HB'; clear HB'
  have HR := Lib.hid (alloc_new' (w.alloc (.cells #[.int .i64 x0, .int .i64 x1, .int .i64 x2, .int .i64 x3, .int .i64 x4, .string xs] 58)) (.cells #[.int .i64 0, .int .i64 0, .int .i64 0, .int .i64 0, .int .i64 0, .bool false, .bool false, .int .i64 0, .string ⟨#[]⟩] 30) (w.heap.size + 1) (by simp))
  have HX' := Lib.hid (block_alloc HX.out (.cells #[.int .i64 0, .int .i64 0, .int .i64 0, .int .i64 0, .int .i64 0, .bool false, .bool false, .int .i64 0, .string ⟨#[]⟩] 30)); clear HX; have HX := HX'; clear HX'
  have HB' := below_alloc (o := .cells #[.int .i64 0, .int .i64 0, .int .i64 0, .int .i64 0, .int .i64 0, .bool false, .bool false, .int .i64 0, .string ⟨#[]⟩] 30) HB; clear HB; have HB := HB'; clear HB'
  go_enter Try.func28, Try.ntmps28
  go_upto_region 1 with fail
  generalize (w.alloc (.cells #[.int .i64 x0, .int .i64 x1, .int .i64 x2, .int .i64 x3, .int .i64 x4, .string xs] 58)).alloc (.cells #[.int .i64 0, .int .i64 0, .int .i64 0, .int .i64 0, .int .i64 0, .bool false, .bool false, .int .i64 0, .string ⟨#[]⟩] 30) = wa at *
  have SX := cells6 HX.out
  obtain ⟨⟨qX0, qX1, qX2, qX3, qX4, qX5⟩, zX0, zX1, zX2, zX3, zX4, zX5⟩ := SX
  have lt_X := blk_lt HX.out
  go_wp2_with fail
  refine (HD.out _).mono ?_
  rintro e w1 ⟨rfl, hb⟩
  clear qX0 zX0 qX1 zX1 qX2 zX2 qX3 zX3 qX4 zX4 qX5 zX5
  have HX' := Lib.hid (bblock hb HX.out); clear HX; have HX := HX'; clear HX'
  have HR' := Lib.hid (bblock hb HR.out); clear HR; have HR := HR'; clear HR'
  have HB' := below_call HB hb; clear HB hb; have HB := HB'; clear HB'; have hz1 := HB.size
  have lt_X_1 := blk_lt HX.out
  have lt_R_1 := blk_lt HR.out
  have HU := Lib.hid (alloc_new' w1 (.cells #[.int .i64 fu, .int .i64 tu, .string D] 63) (w1.heap.size) (by simp))
  have HX' := Lib.hid (block_alloc HX.out (.cells #[.int .i64 fu, .int .i64 tu, .string D] 63)); clear HX; have HX := HX'; clear HX'
  have HR' := Lib.hid (block_alloc HR.out (.cells #[.int .i64 fu, .int .i64 tu, .string D] 63)); clear HR; have HR := HR'; clear HR'
  have HB' := below_alloc (o := .cells #[.int .i64 fu, .int .i64 tu, .string D] 63) HB; clear HB; have HB := HB'; clear HB'
  go_upto_region 2 with fail
  generalize w1.alloc (.cells #[.int .i64 fu, .int .i64 tu, .string D] 63) = wb at *
  have SU := cells3 HU.out
  obtain ⟨⟨qU0, qU1, qU2⟩, zU0, zU1, zU2⟩ := SU
  have lt_U := blk_lt HU.out
  have SX := cells6 HX.out
  obtain ⟨⟨qX0, qX1, qX2, qX3, qX4, qX5⟩, zX0, zX1, zX2, zX3, zX4, zX5⟩ := SX
  have lt_X := blk_lt HX.out
  go_wp2_with fail
  refine (HP.out _).mono ?_
  rintro e w2 ⟨rfl, hb⟩
  clear qU0 zU0 qU1 zU1 qU2 zU2
  clear qX0 zX0 qX1 zX1 qX2 zX2 qX3 zX3 qX4 zX4 qX5 zX5
  have HX' := Lib.hid (bblock hb HX.out); clear HX; have HX := HX'; clear HX'
  have HR' := Lib.hid (bblock hb HR.out); clear HR; have HR := HR'; clear HR'
  have HU' := Lib.hid (bblock hb HU.out); clear HU; have HU := HU'; clear HU'
  have HB' := below_call HB hb; clear HB hb; have HB := HB'; clear HB'; have hz2 := HB.size
  have lt_X_2 := blk_lt HX.out
  have lt_R_2 := blk_lt HR.out
  have lt_U_2 := blk_lt HU.out
  have xU2 := cell_of_block (k := 2) HU.out rfl; obtain ⟨qU2, zU2⟩ := xU2
  go_upto_region 3 with fail
  have HX' := Lib.hid (block_set_other (a := ⟨w1.heap.size, 2, none⟩) (u := .string E) HX.out (by show w1.heap.size ≠ _; omega)); clear HX; have HX := HX'; clear HX'
  have HR' := Lib.hid (block_set_other (a := ⟨w1.heap.size, 2, none⟩) (u := .string E) HR.out (by show w1.heap.size ≠ _; omega)); clear HR; have HR := HR'; clear HR'
  have HU' := Lib.hid (cells_eq (b := #[.int .i64 fu, .int .i64 tu, .string E]) (block_setCell (k := 2) (v := .string E) HU.out) (by simp)); clear HU; have HU := HU'; clear HU' qU2 zU2
  have HB' := Below.setCell (p := ⟨w1.heap.size, 2, none⟩) HB (by show w.heap.size ≤ w1.heap.size; omega) (.string E); clear HB; have HB := HB'; clear HB'
  generalize World.setCell w2 ⟨w1.heap.size, 2, none⟩ (.string E) = w3 at *
  have HR := Below.refl w3.heap.size w3
  have gU0 : Hid (w3.cell? ⟨w1.heap.size, 0, none⟩ = some (.int .i64 fu)) := Lib.hid (cell_of_block (k := 0) HU.out rfl).1
  have gU1 : Hid (w3.cell? ⟨w1.heap.size, 1, none⟩ = some (.int .i64 tu)) := Lib.hid (cell_of_block (k := 1) HU.out rfl).1
  have gU2 : Hid (w3.cell? ⟨w1.heap.size, 2, none⟩ = some (.string E)) := Lib.hid (cell_of_block (k := 2) HU.out rfl).1
  have gX0 : Hid (w3.cell? ⟨w.heap.size, 0, none⟩ = some (.int .i64 x0)) := Lib.hid (cell_of_block (k := 0) HX.out rfl).1
  have gX1 : Hid (w3.cell? ⟨w.heap.size, 1, none⟩ = some (.int .i64 x1)) := Lib.hid (cell_of_block (k := 1) HX.out rfl).1
  go_region_held3 (fun w' => w'.cell? ⟨w1.heap.size, 0, none⟩ = some (.int .i64 fu) ∧ w'.cell? ⟨w1.heap.size, 1, none⟩ = some (.int .i64 tu) ∧ w'.cell? ⟨w1.heap.size, 2, none⟩ = some (.string E) ∧ w'.cell? ⟨w.heap.size, 0, none⟩ = some (.int .i64 x0) ∧ w'.cell? ⟨w.heap.size, 1, none⟩ = some (.int .i64 x1) ∧ Below w3.heap.size w3 w') (first | with_reducible exact ⟨bcell (hRa3.out) gU0.out, bcell (hRa3.out) gU1.out, bcell (hRa3.out) gU2.out, bcell (hRa3.out) gX0.out, bcell (hRa3.out) gX1.out, hRa3.out⟩ | with_reducible exact ⟨bcell (hRa2.out) gU0.out, bcell (hRa2.out) gU1.out, bcell (hRa2.out) gU2.out, bcell (hRa2.out) gX0.out, bcell (hRa2.out) gX1.out, hRa2.out⟩ | with_reducible exact ⟨bcell (hRa1.out) gU0.out, bcell (hRa1.out) gU1.out, bcell (hRa1.out) gU2.out, bcell (hRa1.out) gX0.out, bcell (hRa1.out) gX1.out, hRa1.out⟩ | exact ⟨gU0.out, gU1.out, gU2.out, gX0.out, gX1.out, HR.drew⟩)
    (first | (go_at_call 51; have _t := hRa2; clear _t; refine (HE0.out _).mono ?_; rintro e a3 ⟨rfl, hba3⟩; have hRa3 := Lib.hid (below_call hRa2.out hba3)) | (go_at_call 55; have _t := hRa1; clear _t; refine (HA1.out _).mono ?_; rintro e a2 ⟨rfl, hba2⟩; have hRa2 := Lib.hid (below_call hRa1.out hba2)) | (go_at_call 55; refine (HA0.out _).mono ?_; rintro e a1 ⟨rfl, hba1⟩; have hRa1 := Lib.hid (below_call HR.drew hba1)))
  have hb := hRa3.out
  clear HR hRa1 hba1 hRa2 hba2 hRa3 hba3 gU0 gU1 gU2 gX0 gX1
  have HX' := Lib.hid (bblock hb HX.out); clear HX; have HX := HX'; clear HX'
  have HR' := Lib.hid (bblock hb HR.out); clear HR; have HR := HR'; clear HR'
  have HU' := Lib.hid (bblock hb HU.out); clear HU; have HU := HU'; clear HU'
  have HB' := below_call HB hb; clear HB hb; have HB := HB'; clear HB'; have hz := HB.size
  have a3X := blk_lt HX.out; have a3R := blk_lt HR.out; have a3U := blk_lt HU.out
  go_upto_region 4 with fail
  have qX0 := (cell_of_block (k := 0) HX.out rfl).1; have zX0 := (cell_of_block (k := 0) HX.out rfl).2
  have qX1 := (cell_of_block (k := 1) HX.out rfl).1; have zX1 := (cell_of_block (k := 1) HX.out rfl).2
  have lt_X := blk_lt HX.out
  go_cut [11] (fun a wx => ∃ pb, a = .pointer (some ⟨pb, 0, none⟩) ∧ wx.heap[pb]? = some (.cells #[.int .i64 fp0, .int .i64 tp, .int .i64 17, .int .i64 9, .int .i64 pid, .bool false, .bool false, .int .i64 0, .string S0] 30) ∧ Below a3.heap.size a3 wx ∧ a3.heap.size ≤ pb)
  case first =>
    have gX0 : Hid (a3.drew.cell? ⟨w.heap.size, 0, none⟩ = some (.int .i64 x0)) := Lib.hid qX0; have gX1 : Hid (a3.drew.cell? ⟨w.heap.size, 1, none⟩ = some (.int .i64 x1)) := Lib.hid qX1; have HRR := Lib.hid (Below.refl a3.heap.size a3).drew
    have gY0 : Hid (∀ o, ((a3.alloc o).drew).cell? ⟨w.heap.size, 0, none⟩ = some (.int .i64 x0)) := Lib.hid (fun o => cell_alloc' o qX0); have gY1 : Hid (∀ o, ((a3.alloc o).drew).cell? ⟨w.heap.size, 1, none⟩ = some (.int .i64 x1)) := Lib.hid (fun o => cell_alloc' o qX1); have HRY : Hid (∀ o, Below a3.heap.size a3 ((a3.alloc o).drew)) := Lib.hid (fun o => (below_alloc (Below.refl _ _)).drew)
    clear qX0 qX1 zX0 zX1
    go_region_held3 (fun w' => w'.cell? ⟨w.heap.size, 0, none⟩ = some (.int .i64 x0) ∧ w'.cell? ⟨w.heap.size, 1, none⟩ = some (.int .i64 x1) ∧ Below a3.heap.size a3 w') ((first | with_reducible exact ⟨gX0.out, gX1.out, HRR.out⟩ | with_reducible exact ⟨gY0.out _, gY1.out _, HRY.out _⟩))
      (first | (go_simp; go_at_call 55; with_reducible refine (HA0q.out _).mono ?_; rintro e v ⟨rfl, rfl⟩) | (go_simp; go_at_call 55; with_reducible refine (HA1q.out _).mono ?_; rintro e v ⟨rfl, rfl⟩) | (go_simp; go_at_call 31; with_reducible refine (HIq.out _).mono ?_; rintro e v ⟨rfl, rfl⟩))
    all_goals
      go_wp2_with fail
      go_meet
      exact ⟨_, rfl, alloc_new _ _, (below_alloc (Below.refl _ _)).drew, Nat.le_refl _⟩
  case rest =>
    clear qX0 qX1 zX0 zX1 lt_X
    obtain ⟨pb, rfl, hP4, hb, hpb⟩ := hcut
    obtain ⟨w4, rfl⟩ : ∃ wo : World, wo = wc := ⟨_, rfl⟩
    have HX' := Lib.hid (bblock hb HX.out); clear HX; have HX := HX'; clear HX'
    have HR' := Lib.hid (bblock hb HR.out); clear HR; have HR := HR'; clear HR'
    have HU' := Lib.hid (bblock hb HU.out); clear HU; have HU := HU'; clear HU'
    have HB' := below_call HB hb; clear HB hb; have HB := HB'; clear HB'; have hz := HB.size
    have HP := Lib.hid hP4; clear hP4
    have hpw : w.heap.size + 1 < pb ∧ w1.heap.size < pb := ⟨by omega, by omega⟩
    have SP := cells9 HP.out
    obtain ⟨⟨qP0, qP1, qP2, qP3, qP4, qP5, qP6, qP7, qP8⟩, zP0, zP1, zP2, zP3, zP4, zP5, zP6, zP7, zP8⟩ := SP
    have lt_P := blk_lt HP.out
    go_upto_region 9 with fail
    clear qP0 zP0 qP1 zP1 qP2 zP2 qP3 zP3 qP4 zP4 qP5 zP5 qP6 zP6 qP7 zP7 qP8 zP8
    have hlo1 : w.heap.size ≤ w4.heap.size := HB.size
    have hw68 : IntKind.i64.wrap (68 + z) = 68 + z := IntWalk.i64_in _ (by omega)
    have hbz := HB.size; have hR4 := blk_lt HR.out
    have HFm := Lib.hid (fun W (hW : Below w4.heap.size w4 W) => (HF.out W).mono fun e w' hv => (show (∃ B c, e = .returned (.tuple #[.slice B L.length c, .int .i64 0]) ∧ PRow w' w4.heap.size B c L) ∧ Below W.heap.size W w' from ⟨by obtain ⟨B, c, h1, h2⟩ := hv.1; exact ⟨B, c, h1, prow_mono h2 hW.size⟩, hv.2⟩))
    have HR := Below.refl w4.heap.size w4
    have gP0 : Hid (w4.cell? ⟨pb, 0, none⟩ = some (.int .i64 fp0)) := Lib.hid (cell_of_block (k := 0) HP.out rfl).1
    have gP1 : Hid (w4.cell? ⟨pb, 1, none⟩ = some (.int .i64 tp)) := Lib.hid (cell_of_block (k := 1) HP.out rfl).1
    have gP2 : Hid (w4.cell? ⟨pb, 2, none⟩ = some (.int .i64 17)) := Lib.hid (cell_of_block (k := 2) HP.out rfl).1
    have gP3 : Hid (w4.cell? ⟨pb, 3, none⟩ = some (.int .i64 9)) := Lib.hid (cell_of_block (k := 3) HP.out rfl).1
    have gP4 : Hid (w4.cell? ⟨pb, 4, none⟩ = some (.int .i64 pid)) := Lib.hid (cell_of_block (k := 4) HP.out rfl).1
    have gP5 : Hid (w4.cell? ⟨pb, 5, none⟩ = some (.bool false)) := Lib.hid (cell_of_block (k := 5) HP.out rfl).1
    have gP6 : Hid (w4.cell? ⟨pb, 6, none⟩ = some (.bool false)) := Lib.hid (cell_of_block (k := 6) HP.out rfl).1
    have gP7 : Hid (w4.cell? ⟨pb, 7, none⟩ = some (.int .i64 0)) := Lib.hid (cell_of_block (k := 7) HP.out rfl).1
    have gP8 : Hid (w4.cell? ⟨pb, 8, none⟩ = some (.string S0)) := Lib.hid (cell_of_block (k := 8) HP.out rfl).1
    go_region_held3 (fun w' => w'.cell? ⟨pb, 0, none⟩ = some (.int .i64 fp0) ∧ w'.cell? ⟨pb, 1, none⟩ = some (.int .i64 tp) ∧ w'.cell? ⟨pb, 2, none⟩ = some (.int .i64 17) ∧ w'.cell? ⟨pb, 3, none⟩ = some (.int .i64 9) ∧ w'.cell? ⟨pb, 4, none⟩ = some (.int .i64 pid) ∧ w'.cell? ⟨pb, 5, none⟩ = some (.bool false) ∧ w'.cell? ⟨pb, 6, none⟩ = some (.bool false) ∧ w'.cell? ⟨pb, 7, none⟩ = some (.int .i64 0) ∧ w'.cell? ⟨pb, 8, none⟩ = some (.string S0) ∧ Below w4.heap.size w4 w') (first | with_reducible exact ⟨bcell (hRb2.out) gP0.out, bcell (hRb2.out) gP1.out, bcell (hRb2.out) gP2.out, bcell (hRb2.out) gP3.out, bcell (hRb2.out) gP4.out, bcell (hRb2.out) gP5.out, bcell (hRb2.out) gP6.out, bcell (hRb2.out) gP7.out, bcell (hRb2.out) gP8.out, hRb2.out⟩ | with_reducible exact ⟨bcell (hRb1.out) gP0.out, bcell (hRb1.out) gP1.out, bcell (hRb1.out) gP2.out, bcell (hRb1.out) gP3.out, bcell (hRb1.out) gP4.out, bcell (hRb1.out) gP5.out, bcell (hRb1.out) gP6.out, bcell (hRb1.out) gP7.out, bcell (hRb1.out) gP8.out, hRb1.out⟩ | exact ⟨gP0.out, gP1.out, gP2.out, gP3.out, gP4.out, gP5.out, gP6.out, gP7.out, gP8.out, HR.drew⟩)
      (first | (go_at_call 56; have _t := hRb1; clear _t; refine (HFm.out _ (hRb1.out)).mono ?_; rintro e b2 ⟨⟨B, c, rfl, hrow⟩, hbb2⟩; have hRb2 := Lib.hid (below_call hRb1.out hbb2)) | (go_at_call 31; refine (HZ.out _).mono ?_; rintro e b1 ⟨rfl, hbb1⟩; have hRb1 := Lib.hid (below_call HR.drew hbb1)))
    have hb := hRb2.out
    clear HR hRb1 hbb1 hRb2 hbb2 gP0 gP1 gP2 gP3 gP4 gP5 gP6 gP7 gP8
    have HX' := Lib.hid (bblock hb HX.out); clear HX; have HX := HX'; clear HX'
    have HR' := Lib.hid (bblock hb HR.out); clear HR; have HR := HR'; clear HR'
    have HU' := Lib.hid (bblock hb HU.out); clear HU; have HU := HU'; clear HU'
    have HP' := Lib.hid (bblock hb HP.out); clear HP; have HP := HP'; clear HP'
    have HB' := below_call HB hb; clear HB hb; have HB := HB'; clear HB'; have hz := HB.size
    have HROW := Lib.hid hrow; clear hrow
    have hlo := HB.size
    go_upto_region 12 with fail
    have SP := cells9 HP.out
    obtain ⟨⟨qP0, qP1, qP2, qP3, qP4, qP5, qP6, qP7, qP8⟩, zP0, zP1, zP2, zP3, zP4, zP5, zP6, zP7, zP8⟩ := SP
    have lt_P := blk_lt HP.out
    have SR := cells9 HR.out
    obtain ⟨⟨qR0, qR1, qR2, qR3, qR4, qR5, qR6, qR7, qR8⟩, zR0, zR1, zR2, zR3, zR4, zR5, zR6, zR7, zR8⟩ := SR
    have lt_R := blk_lt HR.out
    go_region
    all_goals
      have HZZ : Hid ((World.drew (World.setCell (World.setCell (World.setCell (World.setCell (World.setCell (World.setCell (World.setCell (World.setCell (World.setCell b2 ⟨w.heap.size + 1, 0, none⟩ (.int .i64 fp0)) ⟨w.heap.size + 1, 1, none⟩ (.int .i64 tp)) ⟨w.heap.size + 1, 2, none⟩ (.int .i64 17)) ⟨w.heap.size + 1, 3, none⟩ (.int .i64 9)) ⟨w.heap.size + 1, 4, none⟩ (.int .i64 pid)) ⟨w.heap.size + 1, 5, none⟩ (.bool false)) ⟨w.heap.size + 1, 6, none⟩ (.bool false)) ⟨w.heap.size + 1, 7, none⟩ (.int .i64 0)) ⟨w.heap.size + 1, 8, none⟩ (.string S0))).heap[w.heap.size + 1]? = some (.cells #[.int .i64 fp0, .int .i64 tp, .int .i64 17, .int .i64 9, .int .i64 pid, .bool false, .bool false, .int .i64 0, .string S0] 30)) := Lib.hid (drew_heap (stN_all [.int .i64 fp0, .int .i64 tp, .int .i64 17, .int .i64 9, .int .i64 pid, .bool false, .bool false, .int .i64 0, .string S0] HR.out rfl))
      have HZB : Hid (Below w.heap.size w (World.drew (World.setCell (World.setCell (World.setCell (World.setCell (World.setCell (World.setCell (World.setCell (World.setCell (World.setCell b2 ⟨w.heap.size + 1, 0, none⟩ (.int .i64 fp0)) ⟨w.heap.size + 1, 1, none⟩ (.int .i64 tp)) ⟨w.heap.size + 1, 2, none⟩ (.int .i64 17)) ⟨w.heap.size + 1, 3, none⟩ (.int .i64 9)) ⟨w.heap.size + 1, 4, none⟩ (.int .i64 pid)) ⟨w.heap.size + 1, 5, none⟩ (.bool false)) ⟨w.heap.size + 1, 6, none⟩ (.bool false)) ⟨w.heap.size + 1, 7, none⟩ (.int .i64 0)) ⟨w.heap.size + 1, 8, none⟩ (.string S0)))) := Lib.hid (stN_below (base := w.heap.size) (W0 := w) (B := w.heap.size + 1) (by omega) [.int .i64 fp0, .int .i64 tp, .int .i64 17, .int .i64 9, .int .i64 pid, .bool false, .bool false, .int .i64 0, .string S0] _ 0 HB).drew
      have HZO : Hid (PRow (World.drew (World.setCell (World.setCell (World.setCell (World.setCell (World.setCell (World.setCell (World.setCell (World.setCell (World.setCell b2 ⟨w.heap.size + 1, 0, none⟩ (.int .i64 fp0)) ⟨w.heap.size + 1, 1, none⟩ (.int .i64 tp)) ⟨w.heap.size + 1, 2, none⟩ (.int .i64 17)) ⟨w.heap.size + 1, 3, none⟩ (.int .i64 9)) ⟨w.heap.size + 1, 4, none⟩ (.int .i64 pid)) ⟨w.heap.size + 1, 5, none⟩ (.bool false)) ⟨w.heap.size + 1, 6, none⟩ (.bool false)) ⟨w.heap.size + 1, 7, none⟩ (.int .i64 0)) ⟨w.heap.size + 1, 8, none⟩ (.string S0))) w.heap.size B c L) := Lib.hid (prow_drew (W := stN b2 (w.heap.size + 1) 0 [.int .i64 fp0, .int .i64 tp, .int .i64 17, .int .i64 9, .int .i64 pid, .bool false, .bool false, .int .i64 0, .string S0]) ((prow_mono HROW.out hlo1).kept (fun a e => by subst e; have h1 := (HROW.out.bk ⟨a, rfl, rfl⟩).1; have h2 := HROW.out.lt; exact (stN_only [.int .i64 fp0, .int .i64 tp, .int .i64 17, .int .i64 9, .int .i64 pid, .bool false, .bool false, .int .i64 0, .string S0] 0 (World.grownBy.refl b2 (some (w.heap.size + 1)))).block _ h2 (fun q => by injection q with q; omega))))
      clear qP0 zP0 qP1 zP1 qP2 zP2 qP3 zP3 qP4 zP4 qP5 zP5 qP6 zP6 qP7 zP7 qP8 zP8
      clear qR0 zR0 qR1 zR1 qR2 zR2 qR3 zR3 qR4 zR4 qR5 zR5 qR6 zR6 qR7 zR7 qR8 zR8
      generalize (World.drew (World.setCell (World.setCell (World.setCell (World.setCell (World.setCell (World.setCell (World.setCell (World.setCell (World.setCell b2 ⟨w.heap.size + 1, 0, none⟩ (.int .i64 fp0)) ⟨w.heap.size + 1, 1, none⟩ (.int .i64 tp)) ⟨w.heap.size + 1, 2, none⟩ (.int .i64 17)) ⟨w.heap.size + 1, 3, none⟩ (.int .i64 9)) ⟨w.heap.size + 1, 4, none⟩ (.int .i64 pid)) ⟨w.heap.size + 1, 5, none⟩ (.bool false)) ⟨w.heap.size + 1, 6, none⟩ (.bool false)) ⟨w.heap.size + 1, 7, none⟩ (.int .i64 0)) ⟨w.heap.size + 1, 8, none⟩ (.string S0))) = wz at *
      go_wp2_with fail
      refine bodyPost_ret (v := .tuple #[.slice B L.length c, .agg #[.int .i64 fp0, .int .i64 tp, .int .i64 17, .int .i64 9, .int .i64 pid, .bool false, .bool false, .int .i64 0, .string S0]]) (res_tmp_cell Try.results28 (by exact HZZ.out) rfl Try.underlying30 rfl infoPkt) rfl ?_
      exact ⟨⟨B, c, rfl, HZO.out⟩, HZB.out⟩
set_option maxHeartbeats 8000000 in
theorem parts_yes (x0 x1 x2 x3 x4 : Int) (xs : ByteArray) (id size fp0 tp fu tu pid z : Int) (D E S0 S1 : ByteArray) (L : List Pk) (w : World)
    (hA0 : ∀ W, Calls Try.prog 55 #[.int .i64 x0] W fun e w' => e = .returned (.int .i64 fp0) ∧ W = w') (hA1 : ∀ W, Calls Try.prog 55 #[.int .i64 x1] W fun e w' => e = .returned (.int .i64 tp) ∧ W = w')
    (hD : ∀ W, Calls Try.prog 53 #[.agg #[.int .i64 x0, .int .i64 x1, .int .i64 x2, .int .i64 x3, .int .i64 x4, .string xs]] W fun e w' => e = .returned (.agg #[.int .i64 fu, .int .i64 tu, .string D]) ∧ Below W.heap.size W w') (hP : ∀ W, Calls Try.prog 54 #[.string D, .int .i64 (100 + (D.size : Int))] W fun e w' => e = .returned (.string E) ∧ Below W.heap.size W w')
    (hE0 : ∀ W, Calls Try.prog 51 #[.int .i64 fp0, .int .i64 tp, .agg #[.int .i64 fu, .int .i64 tu, .string E]] W fun e w' => e = .returned (.tuple #[.string S0, .int .i64 0]) ∧ Below W.heap.size W w')
    (hI : ∀ W, Calls Try.prog 31 #[.int .i64 id, .int .i64 65536] W fun e w' => e = .returned (.int .i64 pid) ∧ W = w') (hZ : ∀ W, Calls Try.prog 31 #[.int .i64 size, .int .i64 60] W fun e w' => e = .returned (.int .i64 z) ∧ W = w') (hz : 0 ≤ z ∧ z < 60) (hDs : D.size ≤ 200)
    (hE1 : ∀ W, Calls Try.prog 51 #[.int .i64 1, .int .i64 tp, .agg #[.int .i64 fu, .int .i64 tu, .string E]] W fun e w' => e = .returned (.tuple #[.string S1, .int .i64 0]) ∧ Below W.heap.size W w') (hall : (fp0 == 4294967295) = true)
    (hF : ∀ W, Calls Try.prog 56 #[.agg #[.int .i64 1, .int .i64 tp, .int .i64 17, .int .i64 9, .int .i64 pid, .bool false, .bool false, .int .i64 0, .string S1], .int .i64 (68 + z)] W fun e w' => (∃ B c, e = .returned (.tuple #[.slice B L.length c, .int .i64 0]) ∧ PRow w' W.heap.size B c L) ∧ Below W.heap.size W w') :
    Calls Try.prog 28 #[.agg #[.int .i64 x0, .int .i64 x1, .int .i64 x2, .int .i64 x3, .int .i64 x4, .string xs], .int .i64 id, .int .i64 size] w fun e w' => (∃ B c, e = .returned (.tuple #[.slice B L.length c, .agg #[.int .i64 1, .int .i64 tp, .int .i64 17, .int .i64 9, .int .i64 pid, .bool false, .bool false, .int .i64 0, .string S1]]) ∧ PRow w' w.heap.size B c L) ∧ Below w.heap.size w w' := by
  have HA0q := Lib.hid (fun W => (hA0 W).mono fun e w' hv => (show e = .returned (.int .i64 fp0) ∧ W = w' from hv))
  have HA1q := Lib.hid (fun W => (hA1 W).mono fun e w' hv => (show e = .returned (.int .i64 tp) ∧ W = w' from hv))
  have HZq := Lib.hid hZ
  have HIq := Lib.hid (fun W => (hI W).mono fun e w' hv => (show e = .returned (.int .i64 pid) ∧ W = w' from hv))
  have HA0 := Lib.hid (fun W => (hA0 W).mono fun e w' hv => (show e = .returned (.int .i64 fp0) ∧ Below W.heap.size W w' from ⟨hv.1, by rw [← hv.2]; exact Below.refl _ _⟩))
  have HA1 := Lib.hid (fun W => (hA1 W).mono fun e w' hv => (show e = .returned (.int .i64 tp) ∧ Below W.heap.size W w' from ⟨hv.1, by rw [← hv.2]; exact Below.refl _ _⟩))
  have HZ := Lib.hid (fun W => (hZ W).mono fun e w' hv => (show e = .returned (.int .i64 z) ∧ Below W.heap.size W w' from ⟨hv.1, by rw [← hv.2]; exact Below.refl _ _⟩))
  have HD := Lib.hid hD; have HP := Lib.hid hP; have HE0 := Lib.hid hE0; have HF := Lib.hid hF; have HE1 := Lib.hid hE1
  clear hA0 hA1 hD hP hE0 hI hZ hF hE1
  have HB := Below.refl w.heap.size w
  have HX := Lib.hid (alloc_new' w (.cells #[.int .i64 x0, .int .i64 x1, .int .i64 x2, .int .i64 x3, .int .i64 x4, .string xs] 58) (w.heap.size) (by simp))
  have HB' := below_alloc (o := .cells #[.int .i64 x0, .int .i64 x1, .int .i64 x2, .int .i64 x3, .int .i64 x4, .string xs] 58) HB; clear HB; have HB := HB'; clear HB'
  have HR := Lib.hid (alloc_new' (w.alloc (.cells #[.int .i64 x0, .int .i64 x1, .int .i64 x2, .int .i64 x3, .int .i64 x4, .string xs] 58)) (.cells #[.int .i64 0, .int .i64 0, .int .i64 0, .int .i64 0, .int .i64 0, .bool false, .bool false, .int .i64 0, .string ⟨#[]⟩] 30) (w.heap.size + 1) (by simp))
  have HX' := Lib.hid (block_alloc HX.out (.cells #[.int .i64 0, .int .i64 0, .int .i64 0, .int .i64 0, .int .i64 0, .bool false, .bool false, .int .i64 0, .string ⟨#[]⟩] 30)); clear HX; have HX := HX'; clear HX'
  have HB' := below_alloc (o := .cells #[.int .i64 0, .int .i64 0, .int .i64 0, .int .i64 0, .int .i64 0, .bool false, .bool false, .int .i64 0, .string ⟨#[]⟩] 30) HB; clear HB; have HB := HB'; clear HB'
  go_enter Try.func28, Try.ntmps28
  go_upto_region 1 with fail
  generalize (w.alloc (.cells #[.int .i64 x0, .int .i64 x1, .int .i64 x2, .int .i64 x3, .int .i64 x4, .string xs] 58)).alloc (.cells #[.int .i64 0, .int .i64 0, .int .i64 0, .int .i64 0, .int .i64 0, .bool false, .bool false, .int .i64 0, .string ⟨#[]⟩] 30) = wa at *
  have SX := cells6 HX.out
  obtain ⟨⟨qX0, qX1, qX2, qX3, qX4, qX5⟩, zX0, zX1, zX2, zX3, zX4, zX5⟩ := SX
  have lt_X := blk_lt HX.out
  go_wp2_with fail
  refine (HD.out _).mono ?_
  rintro e w1 ⟨rfl, hb⟩
  clear qX0 zX0 qX1 zX1 qX2 zX2 qX3 zX3 qX4 zX4 qX5 zX5
  have HX' := Lib.hid (bblock hb HX.out); clear HX; have HX := HX'; clear HX'
  have HR' := Lib.hid (bblock hb HR.out); clear HR; have HR := HR'; clear HR'
  have HB' := below_call HB hb; clear HB hb; have HB := HB'; clear HB'; have hz1 := HB.size
  have lt_X_1 := blk_lt HX.out
  have lt_R_1 := blk_lt HR.out
  have HU := Lib.hid (alloc_new' w1 (.cells #[.int .i64 fu, .int .i64 tu, .string D] 63) (w1.heap.size) (by simp))
  have HX' := Lib.hid (block_alloc HX.out (.cells #[.int .i64 fu, .int .i64 tu, .string D] 63)); clear HX; have HX := HX'; clear HX'
  have HR' := Lib.hid (block_alloc HR.out (.cells #[.int .i64 fu, .int .i64 tu, .string D] 63)); clear HR; have HR := HR'; clear HR'
  have HB' := below_alloc (o := .cells #[.int .i64 fu, .int .i64 tu, .string D] 63) HB; clear HB; have HB := HB'; clear HB'
  go_upto_region 2 with fail
  generalize w1.alloc (.cells #[.int .i64 fu, .int .i64 tu, .string D] 63) = wb at *
  have SU := cells3 HU.out
  obtain ⟨⟨qU0, qU1, qU2⟩, zU0, zU1, zU2⟩ := SU
  have lt_U := blk_lt HU.out
  have SX := cells6 HX.out
  obtain ⟨⟨qX0, qX1, qX2, qX3, qX4, qX5⟩, zX0, zX1, zX2, zX3, zX4, zX5⟩ := SX
  have lt_X := blk_lt HX.out
  go_wp2_with fail
  refine (HP.out _).mono ?_
  rintro e w2 ⟨rfl, hb⟩
  clear qU0 zU0 qU1 zU1 qU2 zU2
  clear qX0 zX0 qX1 zX1 qX2 zX2 qX3 zX3 qX4 zX4 qX5 zX5
  have HX' := Lib.hid (bblock hb HX.out); clear HX; have HX := HX'; clear HX'
  have HR' := Lib.hid (bblock hb HR.out); clear HR; have HR := HR'; clear HR'
  have HU' := Lib.hid (bblock hb HU.out); clear HU; have HU := HU'; clear HU'
  have HB' := below_call HB hb; clear HB hb; have HB := HB'; clear HB'; have hz2 := HB.size
  have lt_X_2 := blk_lt HX.out
  have lt_R_2 := blk_lt HR.out
  have lt_U_2 := blk_lt HU.out
  have xU2 := cell_of_block (k := 2) HU.out rfl; obtain ⟨qU2, zU2⟩ := xU2
  go_upto_region 3 with fail
  have HX' := Lib.hid (block_set_other (a := ⟨w1.heap.size, 2, none⟩) (u := .string E) HX.out (by show w1.heap.size ≠ _; omega)); clear HX; have HX := HX'; clear HX'
  have HR' := Lib.hid (block_set_other (a := ⟨w1.heap.size, 2, none⟩) (u := .string E) HR.out (by show w1.heap.size ≠ _; omega)); clear HR; have HR := HR'; clear HR'
  have HU' := Lib.hid (cells_eq (b := #[.int .i64 fu, .int .i64 tu, .string E]) (block_setCell (k := 2) (v := .string E) HU.out) (by simp)); clear HU; have HU := HU'; clear HU' qU2 zU2
  have HB' := Below.setCell (p := ⟨w1.heap.size, 2, none⟩) HB (by show w.heap.size ≤ w1.heap.size; omega) (.string E); clear HB; have HB := HB'; clear HB'
  generalize World.setCell w2 ⟨w1.heap.size, 2, none⟩ (.string E) = w3 at *
  have HR := Below.refl w3.heap.size w3
  have gU0 : Hid (w3.cell? ⟨w1.heap.size, 0, none⟩ = some (.int .i64 fu)) := Lib.hid (cell_of_block (k := 0) HU.out rfl).1
  have gU1 : Hid (w3.cell? ⟨w1.heap.size, 1, none⟩ = some (.int .i64 tu)) := Lib.hid (cell_of_block (k := 1) HU.out rfl).1
  have gU2 : Hid (w3.cell? ⟨w1.heap.size, 2, none⟩ = some (.string E)) := Lib.hid (cell_of_block (k := 2) HU.out rfl).1
  have gX0 : Hid (w3.cell? ⟨w.heap.size, 0, none⟩ = some (.int .i64 x0)) := Lib.hid (cell_of_block (k := 0) HX.out rfl).1
  have gX1 : Hid (w3.cell? ⟨w.heap.size, 1, none⟩ = some (.int .i64 x1)) := Lib.hid (cell_of_block (k := 1) HX.out rfl).1
  go_region_held3 (fun w' => w'.cell? ⟨w1.heap.size, 0, none⟩ = some (.int .i64 fu) ∧ w'.cell? ⟨w1.heap.size, 1, none⟩ = some (.int .i64 tu) ∧ w'.cell? ⟨w1.heap.size, 2, none⟩ = some (.string E) ∧ w'.cell? ⟨w.heap.size, 0, none⟩ = some (.int .i64 x0) ∧ w'.cell? ⟨w.heap.size, 1, none⟩ = some (.int .i64 x1) ∧ Below w3.heap.size w3 w') (first | with_reducible exact ⟨bcell (hRa3.out) gU0.out, bcell (hRa3.out) gU1.out, bcell (hRa3.out) gU2.out, bcell (hRa3.out) gX0.out, bcell (hRa3.out) gX1.out, hRa3.out⟩ | with_reducible exact ⟨bcell (hRa2.out) gU0.out, bcell (hRa2.out) gU1.out, bcell (hRa2.out) gU2.out, bcell (hRa2.out) gX0.out, bcell (hRa2.out) gX1.out, hRa2.out⟩ | with_reducible exact ⟨bcell (hRa1.out) gU0.out, bcell (hRa1.out) gU1.out, bcell (hRa1.out) gU2.out, bcell (hRa1.out) gX0.out, bcell (hRa1.out) gX1.out, hRa1.out⟩ | exact ⟨gU0.out, gU1.out, gU2.out, gX0.out, gX1.out, HR.drew⟩)
    (first | (go_at_call 51; have _t := hRa2; clear _t; refine (HE0.out _).mono ?_; rintro e a3 ⟨rfl, hba3⟩; have hRa3 := Lib.hid (below_call hRa2.out hba3)) | (go_at_call 55; have _t := hRa1; clear _t; refine (HA1.out _).mono ?_; rintro e a2 ⟨rfl, hba2⟩; have hRa2 := Lib.hid (below_call hRa1.out hba2)) | (go_at_call 55; refine (HA0.out _).mono ?_; rintro e a1 ⟨rfl, hba1⟩; have hRa1 := Lib.hid (below_call HR.drew hba1)))
  have hb := hRa3.out
  clear HR hRa1 hba1 hRa2 hba2 hRa3 hba3 gU0 gU1 gU2 gX0 gX1
  have HX' := Lib.hid (bblock hb HX.out); clear HX; have HX := HX'; clear HX'
  have HR' := Lib.hid (bblock hb HR.out); clear HR; have HR := HR'; clear HR'
  have HU' := Lib.hid (bblock hb HU.out); clear HU; have HU := HU'; clear HU'
  have HB' := below_call HB hb; clear HB hb; have HB := HB'; clear HB'; have hz := HB.size
  have a3X := blk_lt HX.out; have a3R := blk_lt HR.out; have a3U := blk_lt HU.out
  go_upto_region 4 with fail
  have qX0 := (cell_of_block (k := 0) HX.out rfl).1; have zX0 := (cell_of_block (k := 0) HX.out rfl).2
  have qX1 := (cell_of_block (k := 1) HX.out rfl).1; have zX1 := (cell_of_block (k := 1) HX.out rfl).2
  have lt_X := blk_lt HX.out
  go_cut [11] (fun a wx => ∃ pb, a = .pointer (some ⟨pb, 0, none⟩) ∧ wx.heap[pb]? = some (.cells #[.int .i64 fp0, .int .i64 tp, .int .i64 17, .int .i64 9, .int .i64 pid, .bool false, .bool false, .int .i64 0, .string S0] 30) ∧ Below a3.heap.size a3 wx ∧ a3.heap.size ≤ pb)
  case first =>
    have gX0 : Hid (a3.drew.cell? ⟨w.heap.size, 0, none⟩ = some (.int .i64 x0)) := Lib.hid qX0; have gX1 : Hid (a3.drew.cell? ⟨w.heap.size, 1, none⟩ = some (.int .i64 x1)) := Lib.hid qX1; have HRR := Lib.hid (Below.refl a3.heap.size a3).drew
    have gY0 : Hid (∀ o, ((a3.alloc o).drew).cell? ⟨w.heap.size, 0, none⟩ = some (.int .i64 x0)) := Lib.hid (fun o => cell_alloc' o qX0); have gY1 : Hid (∀ o, ((a3.alloc o).drew).cell? ⟨w.heap.size, 1, none⟩ = some (.int .i64 x1)) := Lib.hid (fun o => cell_alloc' o qX1); have HRY : Hid (∀ o, Below a3.heap.size a3 ((a3.alloc o).drew)) := Lib.hid (fun o => (below_alloc (Below.refl _ _)).drew)
    clear qX0 qX1 zX0 zX1
    go_region_held3 (fun w' => w'.cell? ⟨w.heap.size, 0, none⟩ = some (.int .i64 x0) ∧ w'.cell? ⟨w.heap.size, 1, none⟩ = some (.int .i64 x1) ∧ Below a3.heap.size a3 w') ((first | with_reducible exact ⟨gX0.out, gX1.out, HRR.out⟩ | with_reducible exact ⟨gY0.out _, gY1.out _, HRY.out _⟩))
      (first | (go_simp; go_at_call 55; with_reducible refine (HA0q.out _).mono ?_; rintro e v ⟨rfl, rfl⟩) | (go_simp; go_at_call 55; with_reducible refine (HA1q.out _).mono ?_; rintro e v ⟨rfl, rfl⟩) | (go_simp; go_at_call 31; with_reducible refine (HIq.out _).mono ?_; rintro e v ⟨rfl, rfl⟩))
    all_goals
      go_wp2_with fail
      go_meet
      exact ⟨_, rfl, alloc_new _ _, (below_alloc (Below.refl _ _)).drew, Nat.le_refl _⟩
  case rest =>
    clear qX0 qX1 zX0 zX1 lt_X
    obtain ⟨pb, rfl, hP4, hb, hpb⟩ := hcut
    obtain ⟨w4, rfl⟩ : ∃ wo : World, wo = wc := ⟨_, rfl⟩
    have HX' := Lib.hid (bblock hb HX.out); clear HX; have HX := HX'; clear HX'
    have HR' := Lib.hid (bblock hb HR.out); clear HR; have HR := HR'; clear HR'
    have HU' := Lib.hid (bblock hb HU.out); clear HU; have HU := HU'; clear HU'
    have HB' := below_call HB hb; clear HB hb; have HB := HB'; clear HB'; have hz := HB.size
    have HP := Lib.hid hP4; clear hP4
    have hpw : w.heap.size + 1 < pb ∧ w1.heap.size < pb := ⟨by omega, by omega⟩
    have qP0 := (cell_of_block (k := 0) HP.out rfl).1; have zP0 := (cell_of_block (k := 0) HP.out rfl).2
    have lt_P := blk_lt HP.out
    go_upto_region 7 with fail
    clear qP0 zP0
    have HX' := Lib.hid (block_set_other (a := ⟨pb, 0, none⟩) (u := .int .i64 1) HX.out (by show pb ≠ _; omega)); clear HX; have HX := HX'; clear HX'
    have HR' := Lib.hid (block_set_other (a := ⟨pb, 0, none⟩) (u := .int .i64 1) HR.out (by show pb ≠ _; omega)); clear HR; have HR := HR'; clear HR'
    have HU' := Lib.hid (block_set_other (a := ⟨pb, 0, none⟩) (u := .int .i64 1) HU.out (by show pb ≠ _; omega)); clear HU; have HU := HU'; clear HU'
    have HP' := Lib.hid (cells_eq (b := #[.int .i64 1, .int .i64 tp, .int .i64 17, .int .i64 9, .int .i64 pid, .bool false, .bool false, .int .i64 0, .string S0]) (block_setCell (k := 0) (v := .int .i64 1) HP.out) (by simp)); clear HP; have HP := HP'; clear HP'
    have HB' := Below.setCell (p := ⟨pb, 0, none⟩) HB (by show w.heap.size ≤ pb; omega) (.int .i64 1); clear HB; have HB := HB'; clear HB'
    generalize World.setCell w4 ⟨pb, 0, none⟩ (.int .i64 1) = w5 at *
    have SP := cells9 HP.out
    obtain ⟨⟨qP0, qP1, qP2, qP3, qP4, qP5, qP6, qP7, qP8⟩, zP0, zP1, zP2, zP3, zP4, zP5, zP6, zP7, zP8⟩ := SP
    have lt_P := blk_lt HP.out
    have SU := cells3 HU.out
    obtain ⟨⟨qU0, qU1, qU2⟩, zU0, zU1, zU2⟩ := SU
    have lt_U := blk_lt HU.out
    go_wp2_with fail
    refine (HE1.out _).mono ?_
    rintro e w3 ⟨rfl, hb⟩
    clear qP0 zP0 qP1 zP1 qP2 zP2 qP3 zP3 qP4 zP4 qP5 zP5 qP6 zP6 qP7 zP7 qP8 zP8
    clear qU0 zU0 qU1 zU1 qU2 zU2
    have HX' := Lib.hid (bblock hb HX.out); clear HX; have HX := HX'; clear HX'
    have HR' := Lib.hid (bblock hb HR.out); clear HR; have HR := HR'; clear HR'
    have HU' := Lib.hid (bblock hb HU.out); clear HU; have HU := HU'; clear HU'
    have HP' := Lib.hid (bblock hb HP.out); clear HP; have HP := HP'; clear HP'
    have HB' := below_call HB hb; clear HB hb; have HB := HB'; clear HB'; have hz3 := HB.size
    have lt_X_3 := blk_lt HX.out
    have lt_R_3 := blk_lt HR.out
    have lt_U_3 := blk_lt HU.out
    have lt_P_3 := blk_lt HP.out
    have xP8 := cell_of_block (k := 8) HP.out rfl; obtain ⟨qP8, zP8⟩ := xP8
    go_upto_region 9 with fail
    clear qP8 zP8
    have HX' := Lib.hid (block_set_other (a := ⟨pb, 8, none⟩) (u := .string S1) HX.out (by show pb ≠ _; omega)); clear HX; have HX := HX'; clear HX'
    have HR' := Lib.hid (block_set_other (a := ⟨pb, 8, none⟩) (u := .string S1) HR.out (by show pb ≠ _; omega)); clear HR; have HR := HR'; clear HR'
    have HU' := Lib.hid (block_set_other (a := ⟨pb, 8, none⟩) (u := .string S1) HU.out (by show pb ≠ _; omega)); clear HU; have HU := HU'; clear HU'
    have HP' := Lib.hid (cells_eq (b := #[.int .i64 1, .int .i64 tp, .int .i64 17, .int .i64 9, .int .i64 pid, .bool false, .bool false, .int .i64 0, .string S1]) (block_setCell (k := 8) (v := .string S1) HP.out) (by simp)); clear HP; have HP := HP'; clear HP'
    have HB' := Below.setCell (p := ⟨pb, 8, none⟩) HB (by show w.heap.size ≤ pb; omega) (.string S1); clear HB; have HB := HB'; clear HB'
    generalize World.setCell w3 ⟨pb, 8, none⟩ (.string S1) = w7 at *
    have hlo1 : w.heap.size ≤ w7.heap.size := HB.size
    have hw68 : IntKind.i64.wrap (68 + z) = 68 + z := IntWalk.i64_in _ (by omega)
    have hbz := HB.size; have hR4 := blk_lt HR.out
    have HFm := Lib.hid (fun W (hW : Below w7.heap.size w7 W) => (HF.out W).mono fun e w' hv => (show (∃ B c, e = .returned (.tuple #[.slice B L.length c, .int .i64 0]) ∧ PRow w' w7.heap.size B c L) ∧ Below W.heap.size W w' from ⟨by obtain ⟨B, c, h1, h2⟩ := hv.1; exact ⟨B, c, h1, prow_mono h2 hW.size⟩, hv.2⟩))
    have HR := Below.refl w7.heap.size w7
    have gP0 : Hid (w7.cell? ⟨pb, 0, none⟩ = some (.int .i64 1)) := Lib.hid (cell_of_block (k := 0) HP.out rfl).1
    have gP1 : Hid (w7.cell? ⟨pb, 1, none⟩ = some (.int .i64 tp)) := Lib.hid (cell_of_block (k := 1) HP.out rfl).1
    have gP2 : Hid (w7.cell? ⟨pb, 2, none⟩ = some (.int .i64 17)) := Lib.hid (cell_of_block (k := 2) HP.out rfl).1
    have gP3 : Hid (w7.cell? ⟨pb, 3, none⟩ = some (.int .i64 9)) := Lib.hid (cell_of_block (k := 3) HP.out rfl).1
    have gP4 : Hid (w7.cell? ⟨pb, 4, none⟩ = some (.int .i64 pid)) := Lib.hid (cell_of_block (k := 4) HP.out rfl).1
    have gP5 : Hid (w7.cell? ⟨pb, 5, none⟩ = some (.bool false)) := Lib.hid (cell_of_block (k := 5) HP.out rfl).1
    have gP6 : Hid (w7.cell? ⟨pb, 6, none⟩ = some (.bool false)) := Lib.hid (cell_of_block (k := 6) HP.out rfl).1
    have gP7 : Hid (w7.cell? ⟨pb, 7, none⟩ = some (.int .i64 0)) := Lib.hid (cell_of_block (k := 7) HP.out rfl).1
    have gP8 : Hid (w7.cell? ⟨pb, 8, none⟩ = some (.string S1)) := Lib.hid (cell_of_block (k := 8) HP.out rfl).1
    go_region_held3 (fun w' => w'.cell? ⟨pb, 0, none⟩ = some (.int .i64 1) ∧ w'.cell? ⟨pb, 1, none⟩ = some (.int .i64 tp) ∧ w'.cell? ⟨pb, 2, none⟩ = some (.int .i64 17) ∧ w'.cell? ⟨pb, 3, none⟩ = some (.int .i64 9) ∧ w'.cell? ⟨pb, 4, none⟩ = some (.int .i64 pid) ∧ w'.cell? ⟨pb, 5, none⟩ = some (.bool false) ∧ w'.cell? ⟨pb, 6, none⟩ = some (.bool false) ∧ w'.cell? ⟨pb, 7, none⟩ = some (.int .i64 0) ∧ w'.cell? ⟨pb, 8, none⟩ = some (.string S1) ∧ Below w7.heap.size w7 w') (first | with_reducible exact ⟨bcell (hRb2.out) gP0.out, bcell (hRb2.out) gP1.out, bcell (hRb2.out) gP2.out, bcell (hRb2.out) gP3.out, bcell (hRb2.out) gP4.out, bcell (hRb2.out) gP5.out, bcell (hRb2.out) gP6.out, bcell (hRb2.out) gP7.out, bcell (hRb2.out) gP8.out, hRb2.out⟩ | with_reducible exact ⟨bcell (hRb1.out) gP0.out, bcell (hRb1.out) gP1.out, bcell (hRb1.out) gP2.out, bcell (hRb1.out) gP3.out, bcell (hRb1.out) gP4.out, bcell (hRb1.out) gP5.out, bcell (hRb1.out) gP6.out, bcell (hRb1.out) gP7.out, bcell (hRb1.out) gP8.out, hRb1.out⟩ | exact ⟨gP0.out, gP1.out, gP2.out, gP3.out, gP4.out, gP5.out, gP6.out, gP7.out, gP8.out, HR.drew⟩)
      (first | (go_at_call 56; have _t := hRb1; clear _t; refine (HFm.out _ (hRb1.out)).mono ?_; rintro e b2 ⟨⟨B, c, rfl, hrow⟩, hbb2⟩; have hRb2 := Lib.hid (below_call hRb1.out hbb2)) | (go_at_call 31; refine (HZ.out _).mono ?_; rintro e b1 ⟨rfl, hbb1⟩; have hRb1 := Lib.hid (below_call HR.drew hbb1)))
    have hb := hRb2.out
    clear HR hRb1 hbb1 hRb2 hbb2 gP0 gP1 gP2 gP3 gP4 gP5 gP6 gP7 gP8
    have HX' := Lib.hid (bblock hb HX.out); clear HX; have HX := HX'; clear HX'
    have HR' := Lib.hid (bblock hb HR.out); clear HR; have HR := HR'; clear HR'
    have HU' := Lib.hid (bblock hb HU.out); clear HU; have HU := HU'; clear HU'
    have HP' := Lib.hid (bblock hb HP.out); clear HP; have HP := HP'; clear HP'
    have HB' := below_call HB hb; clear HB hb; have HB := HB'; clear HB'; have hz := HB.size
    have HROW := Lib.hid hrow; clear hrow
    have hlo := HB.size
    go_upto_region 12 with fail
    have SP := cells9 HP.out
    obtain ⟨⟨qP0, qP1, qP2, qP3, qP4, qP5, qP6, qP7, qP8⟩, zP0, zP1, zP2, zP3, zP4, zP5, zP6, zP7, zP8⟩ := SP
    have lt_P := blk_lt HP.out
    have SR := cells9 HR.out
    obtain ⟨⟨qR0, qR1, qR2, qR3, qR4, qR5, qR6, qR7, qR8⟩, zR0, zR1, zR2, zR3, zR4, zR5, zR6, zR7, zR8⟩ := SR
    have lt_R := blk_lt HR.out
    go_region
    all_goals
      have HZZ : Hid ((World.drew (World.setCell (World.setCell (World.setCell (World.setCell (World.setCell (World.setCell (World.setCell (World.setCell (World.setCell b2 ⟨w.heap.size + 1, 0, none⟩ (.int .i64 1)) ⟨w.heap.size + 1, 1, none⟩ (.int .i64 tp)) ⟨w.heap.size + 1, 2, none⟩ (.int .i64 17)) ⟨w.heap.size + 1, 3, none⟩ (.int .i64 9)) ⟨w.heap.size + 1, 4, none⟩ (.int .i64 pid)) ⟨w.heap.size + 1, 5, none⟩ (.bool false)) ⟨w.heap.size + 1, 6, none⟩ (.bool false)) ⟨w.heap.size + 1, 7, none⟩ (.int .i64 0)) ⟨w.heap.size + 1, 8, none⟩ (.string S1))).heap[w.heap.size + 1]? = some (.cells #[.int .i64 1, .int .i64 tp, .int .i64 17, .int .i64 9, .int .i64 pid, .bool false, .bool false, .int .i64 0, .string S1] 30)) := Lib.hid (drew_heap (stN_all [.int .i64 1, .int .i64 tp, .int .i64 17, .int .i64 9, .int .i64 pid, .bool false, .bool false, .int .i64 0, .string S1] HR.out rfl))
      have HZB : Hid (Below w.heap.size w (World.drew (World.setCell (World.setCell (World.setCell (World.setCell (World.setCell (World.setCell (World.setCell (World.setCell (World.setCell b2 ⟨w.heap.size + 1, 0, none⟩ (.int .i64 1)) ⟨w.heap.size + 1, 1, none⟩ (.int .i64 tp)) ⟨w.heap.size + 1, 2, none⟩ (.int .i64 17)) ⟨w.heap.size + 1, 3, none⟩ (.int .i64 9)) ⟨w.heap.size + 1, 4, none⟩ (.int .i64 pid)) ⟨w.heap.size + 1, 5, none⟩ (.bool false)) ⟨w.heap.size + 1, 6, none⟩ (.bool false)) ⟨w.heap.size + 1, 7, none⟩ (.int .i64 0)) ⟨w.heap.size + 1, 8, none⟩ (.string S1)))) := Lib.hid (stN_below (base := w.heap.size) (W0 := w) (B := w.heap.size + 1) (by omega) [.int .i64 1, .int .i64 tp, .int .i64 17, .int .i64 9, .int .i64 pid, .bool false, .bool false, .int .i64 0, .string S1] _ 0 HB).drew
      have HZO : Hid (PRow (World.drew (World.setCell (World.setCell (World.setCell (World.setCell (World.setCell (World.setCell (World.setCell (World.setCell (World.setCell b2 ⟨w.heap.size + 1, 0, none⟩ (.int .i64 1)) ⟨w.heap.size + 1, 1, none⟩ (.int .i64 tp)) ⟨w.heap.size + 1, 2, none⟩ (.int .i64 17)) ⟨w.heap.size + 1, 3, none⟩ (.int .i64 9)) ⟨w.heap.size + 1, 4, none⟩ (.int .i64 pid)) ⟨w.heap.size + 1, 5, none⟩ (.bool false)) ⟨w.heap.size + 1, 6, none⟩ (.bool false)) ⟨w.heap.size + 1, 7, none⟩ (.int .i64 0)) ⟨w.heap.size + 1, 8, none⟩ (.string S1))) w.heap.size B c L) := Lib.hid (prow_drew (W := stN b2 (w.heap.size + 1) 0 [.int .i64 1, .int .i64 tp, .int .i64 17, .int .i64 9, .int .i64 pid, .bool false, .bool false, .int .i64 0, .string S1]) ((prow_mono HROW.out hlo1).kept (fun a e => by subst e; have h1 := (HROW.out.bk ⟨a, rfl, rfl⟩).1; have h2 := HROW.out.lt; exact (stN_only [.int .i64 1, .int .i64 tp, .int .i64 17, .int .i64 9, .int .i64 pid, .bool false, .bool false, .int .i64 0, .string S1] 0 (World.grownBy.refl b2 (some (w.heap.size + 1)))).block _ h2 (fun q => by injection q with q; omega))))
      clear qP0 zP0 qP1 zP1 qP2 zP2 qP3 zP3 qP4 zP4 qP5 zP5 qP6 zP6 qP7 zP7 qP8 zP8
      clear qR0 zR0 qR1 zR1 qR2 zR2 qR3 zR3 qR4 zR4 qR5 zR5 qR6 zR6 qR7 zR7 qR8 zR8
      generalize (World.drew (World.setCell (World.setCell (World.setCell (World.setCell (World.setCell (World.setCell (World.setCell (World.setCell (World.setCell b2 ⟨w.heap.size + 1, 0, none⟩ (.int .i64 1)) ⟨w.heap.size + 1, 1, none⟩ (.int .i64 tp)) ⟨w.heap.size + 1, 2, none⟩ (.int .i64 17)) ⟨w.heap.size + 1, 3, none⟩ (.int .i64 9)) ⟨w.heap.size + 1, 4, none⟩ (.int .i64 pid)) ⟨w.heap.size + 1, 5, none⟩ (.bool false)) ⟨w.heap.size + 1, 6, none⟩ (.bool false)) ⟨w.heap.size + 1, 7, none⟩ (.int .i64 0)) ⟨w.heap.size + 1, 8, none⟩ (.string S1))) = wz at *
      go_wp2_with fail
      refine bodyPost_ret (v := .tuple #[.slice B L.length c, .agg #[.int .i64 1, .int .i64 tp, .int .i64 17, .int .i64 9, .int .i64 pid, .bool false, .bool false, .int .i64 0, .string S1]]) (res_tmp_cell Try.results28 (by exact HZZ.out) rfl Try.underlying30 rfl infoPkt) rfl ?_
      exact ⟨⟨B, c, rfl, HZO.out⟩, HZB.out⟩
end Go.Proofs.Ytmeldgnjgogacaa.Re

namespace Go.Proofs.Ytmeldgnjgogacaa.Re
set_option maxRecDepth 100000
open Go.RowKit Go.Proofs.Ytmeldgnjgogacaa.Wire
open Go.Proofs.Ytmeldgnjgogacaa.Ip (Pk pieceAt count frags count_lt fragN fragN_bd fragList fragErr VLen vlenB)
open Go.Proofs.Ytmeldgnjgogacaa.Udp (addrOf portOf dataOf enc encOk decOk addrOf_bd portOf_bd dataOf_length enc_length)
open Go.Proofs.Ytmeldgnjgogacaa.Gen (payload payload_length pick pick_lt)

theorem jn_ok (a b f t : Int) (l : List UInt8) (ha : 1 ≤ a ∧ a ≤ 4294967295) (hb : 1 ≤ b ∧ b ≤ 4294967295) (hf : 1 ≤ f ∧ f ≤ 65535) (ht : 1 ≤ t ∧ t ≤ 65535) (hl : l.length ≤ 2000) : encOk a b f t l.length = true := by
  simp [encOk, Udp.validB, Udp.portB, Udp.addrB]; omega
theorem jn_enc (a b f t : Int) (l : List UInt8) (h : encOk a b f t l.length = true) (w : World) :
    Calls Try.prog 51 #[.int .i64 a, .int .i64 b, .agg #[.int .i64 f, .int .i64 t, .string ⟨l.toArray⟩]] w fun e w' => e = .returned (.tuple #[.string ⟨(enc a b f t l).toArray⟩, .int .i64 0]) ∧ Below w.heap.size w w' := by
  have := Udp.Encode_ok a b f t ⟨l.toArray⟩ w h
  simpa using this
def jE (xs : ByteArray) (x4 : Int) : List UInt8 := payload ⟨(dataOf xs x4).toArray⟩ (100 + (dataOf xs x4).length)
def jf (x0 : Int) : Int := if addrOf x0 = 4294967295 then 1 else addrOf x0
def jpk (x0 x1 x2 x3 x4 : Int) (xs : ByteArray) (id : Int) : Pk := { f := jf x0, t := addrOf x1, pr := 17, ttl := 9, id := pick id 65536, df := false, mf := false, off := 0, s := ⟨(enc (jf x0) (addrOf x1) (portOf x2) (portOf x3) (jE xs x4)).toArray⟩ }
def jN (size : Int) : Nat := fragN (68 + pick size 60)
def jL (p : Pk) (n : Nat) : List Pk := frags p n (count p n)
theorem jf_bd (x : Int) : 1 ≤ jf x ∧ jf x ≤ 4294967294 := by
  have := addrOf_bd x
  unfold jf
  split <;> omega
theorem jE_len (xs : ByteArray) (x4 : Int) : 100 ≤ (jE xs x4).length ∧ (jE xs x4).length ≤ 300 := by
  have := dataOf_length xs x4
  unfold jE
  rw [payload_length]; omega
theorem jpk_size (x0 x1 x2 x3 x4 : Int) (xs : ByteArray) (id : Int) : 108 ≤ (jpk x0 x1 x2 x3 x4 xs id).s.size ∧ (jpk x0 x1 x2 x3 x4 xs id).s.size ≤ 308 := by
  have h := jE_len xs x4
  have e : (jpk x0 x1 x2 x3 x4 xs id).s.size = 8 + (jE xs x4).length := by
    show (enc _ _ _ _ _).toArray.size = _
    rw [List.size_toArray, enc_length]
  rw [e]; omega
theorem jN_bd (size : Int) : 48 ≤ jN size ∧ jN size ≤ 107 ∧ jN size % 8 = 0 := by
  have h := pick_lt size 60 (by omega)
  have := fragN_bd (68 + pick size 60) (by omega)
  unfold jN
  omega
theorem jpk_whole (x0 x1 x2 x3 x4 : Int) (xs : ByteArray) (id size : Int) : Whole (jpk x0 x1 x2 x3 x4 xs id) (jN size) := by
  have h1 := jpk_size x0 x1 x2 x3 x4 xs id
  have h2 := jN_bd size
  have h3 := jf_bd x0
  have h4 := addrOf_bd x1
  have h5 := pick_lt id 65536 (by omega)
  refine ⟨⟨by omega, rfl, rfl, by omega, by omega⟩, rfl, ?_, h2.2.2⟩
  unfold vldB vlenB
  refine decide_eq_true ?_
  obtain ⟨Z, hZ⟩ : ∃ Z, (jpk x0 x1 x2 x3 x4 xs id).s.size = Z := ⟨_, rfl⟩
  rw [hZ] at h1 ⊢
  show VLen (jf x0) (addrOf x1) 17 9 (pick id 65536) false false 0 Z
  unfold VLen
  simp
  omega
theorem jpk_dec (x0 x1 x2 x3 x4 : Int) (xs : ByteArray) (id : Int) : decOk (jpk x0 x1 x2 x3 x4 xs id).f (jpk x0 x1 x2 x3 x4 xs id).t (jpk x0 x1 x2 x3 x4 xs id).s := by
  have h3 := jf_bd x0
  exact Udp.round _ _ _ _ _ (jn_ok _ _ _ _ _ ⟨h3.1, by show jf x0 ≤ _; omega⟩ (addrOf_bd x1) (portOf_bd x2) (portOf_bd x3) (by have := jE_len xs x4; omega))
theorem own_sl2 {W : World} {base : Nat} {T : TypeId} {sz n : Nat} {v : Value} {xs : List Value} (h : W.ownsRow base T sz v n xs) : ∃ B c, v = .slice B n c := by
  rcases h.2 with ⟨e, h0⟩ | ⟨g, cap, cur, e, -⟩
  · exact ⟨none, 0, by rw [e, h0]⟩
  · exact ⟨_, _, e⟩
theorem cells_pkC (l : List Pk) : Ip.pkCells l = pkC l := rfl
theorem jfrag (p : Pk) (size : Int) (hw : Whole p (jN size)) (h108 : 108 ≤ p.s.size) (w : World) :
    Calls Try.prog 56 #[.agg #[.int .i64 p.f, .int .i64 p.t, .int .i64 p.pr, .int .i64 p.ttl, .int .i64 p.id, .bool p.df, .bool p.mf, .int .i64 p.off, .string p.s], .int .i64 (68 + pick size 60)] w fun e w' => (∃ B c, e = .returned (.tuple #[.slice B (jL p (jN size)).length c, .int .i64 0]) ∧ PRow w' w.heap.size B c (jL p (jN size))) ∧ Below w.heap.size w w' := by
  have hok : VLen p.f p.t p.pr p.ttl p.id p.df p.mf p.off p.s.size := of_decide_eq_true hw.val
  have h2 := pick_lt size 60 (by omega)
  have h1 := jN_bd size
  have hle := hw.cut.le
  have he : fragErr p (68 + pick size 60) = 0 := Ip.frag_err p hok hw.df _ (by omega)
  have hl : fragList p (68 + pick size 60) = jL p (jN size) := by
    unfold fragList
    rw [if_neg (by simpa using hok), if_neg (by omega), if_neg (by omega), if_neg (by rw [hw.df]; simp)]
    rfl
  refine (Ip.Fragment_any p (68 + pick size 60) w (by omega)).mono ?_
  rintro e w' ⟨v, rfl, hr, hb⟩
  rw [he]
  rw [hl] at hr
  obtain ⟨B, c, rfl⟩ := own_sl2 hr
  exact ⟨⟨B, c, rfl, hr⟩, hb⟩
def In64' (n : Int) : Prop := -9223372036854775808 ≤ n ∧ n ≤ 9223372036854775807
theorem parts10_any (x0 x1 x2 x3 x4 : Int) (xs : ByteArray) (id size : Int) (w : World) (h0 : In64' x0) (h1 : In64' x1) (h2 : In64' x2) (h3 : In64' x3) (h4 : In64' x4) (hi : In64' id) (hz : In64' size) (hs : xs.size ≤ 9223372036854775807) :
    Calls Try.prog 28 #[.agg #[.int .i64 x0, .int .i64 x1, .int .i64 x2, .int .i64 x3, .int .i64 x4, .string xs], .int .i64 id, .int .i64 size] w fun e w' => (∃ B c, e = .returned (.tuple #[.slice B (jL (jpk x0 x1 x2 x3 x4 xs id) (jN size)).length c, PkV (jpk x0 x1 x2 x3 x4 xs id)]) ∧ PRow w' w.heap.size B c (jL (jpk x0 x1 x2 x3 x4 xs id) (jN size))) ∧ Below w.heap.size w w' := by
  have hpz := pick_lt size 60 (by omega)
  have hdl := dataOf_length xs x4
  have hel := jE_len xs x4
  have hds : (⟨(dataOf xs x4).toArray⟩ : ByteArray).size = (dataOf xs x4).length := rfl
  have hA0 := fun W => Udp.addressFrom_any x0 W h0.1 h0.2
  have hA1 := fun W => Udp.addressFrom_any x1 W h1.1 h1.2
  have hI := fun W => Udp.pick_any id 65536 W hi.1 hi.2 (by omega) (by omega)
  have hZ := fun W => Udp.pick_any size 60 W hz.1 hz.2 (by omega) (by omega)
  have hD := fun W => Udp.datagramFrom_any x0 x1 x2 x3 x4 xs W h2 h3 h4 hs
  have hP : ∀ W, Calls Try.prog 54 #[.string ⟨(dataOf xs x4).toArray⟩, .int .i64 (100 + ((⟨(dataOf xs x4).toArray⟩ : ByteArray).size : Int))] W fun e w' => e = .returned (.string ⟨(jE xs x4).toArray⟩) ∧ Below W.heap.size W w' := fun W => by
    have := Gen.payload_any ⟨(dataOf xs x4).toArray⟩ (100 + ((⟨(dataOf xs x4).toArray⟩ : ByteArray).size : Int)) W (by omega) (by rw [hds]; omega) (by rw [hds]; omega)
    have e : (100 + ((⟨(dataOf xs x4).toArray⟩ : ByteArray).size : Int)).toNat = 100 + (dataOf xs x4).length := by rw [hds]; omega
    rw [e] at this
    exact this
  have ha1 := addrOf_bd x1
  have ha0 := addrOf_bd x0
  have hE0 := fun W => jn_enc (addrOf x0) (addrOf x1) (portOf x2) (portOf x3) (jE xs x4) (jn_ok _ _ _ _ _ ha0 ha1 (portOf_bd x2) (portOf_bd x3) (by omega)) W
  have hw := jpk_whole x0 x1 x2 x3 x4 xs id size
  have hF := fun W => jfrag (jpk x0 x1 x2 x3 x4 xs id) size hw (jpk_size x0 x1 x2 x3 x4 xs id).1 W
  by_cases hall : addrOf x0 = 4294967295
  · have e : jf x0 = 1 := by unfold jf; rw [if_pos hall]
    have hE1 := fun W => jn_enc 1 (addrOf x1) (portOf x2) (portOf x3) (jE xs x4) (jn_ok _ _ _ _ _ (by omega) ha1 (portOf_bd x2) (portOf_bd x3) (by omega)) W
    unfold PkV
    unfold jpk at hF ⊢
    rw [e] at hF ⊢
    exact parts_yes x0 x1 x2 x3 x4 xs id size (addrOf x0) (addrOf x1) (portOf x2) (portOf x3) (pick id 65536) (pick size 60) _ _ _ _ _ w hA0 hA1 hD hP hE0 hI hZ hpz (by rw [hds]; exact hdl) hE1 (by rw [hall]; rfl) hF
  · have e : jf x0 = addrOf x0 := by unfold jf; rw [if_neg hall]
    unfold PkV
    unfold jpk at hF ⊢
    rw [e] at hF ⊢
    exact parts_no x0 x1 x2 x3 x4 xs id size (addrOf x0) (addrOf x1) (portOf x2) (portOf x3) (pick id 65536) (pick size 60) _ _ _ _ w hA0 hA1 hD hP hE0 hI hZ hpz (by rw [hds]; exact hdl) (by rw [beq_eq_false_iff_ne]; exact hall) hF
end Go.Proofs.Ytmeldgnjgogacaa.Re

namespace Go.Proofs.Ytmeldgnjgogacaa.Re
set_option maxRecDepth 100000
open Go.RowKit Go.Proofs.Ytmeldgnjgogacaa.Wire Go.Deep Go.ChangeShapes Go.WideShapes

/-- the slice at A of k bytes came in; it holds the list l -/
def ArgI (W : World) (A : Option Addr) (k : Nat) (l : List Int) : Prop :=
  l.length = k ∧ k ≤ maxLen ∧ (∀ x ∈ l, (-9223372036854775808 ≤ x ∧ x ≤ 9223372036854775807)) ∧ (0 < k → ∃ b o, A = some ⟨b, o, none⟩ ∧ b < W.heap.size ∧ ∀ (i : Nat) (x : Int), l[i]? = some x → W.cell? ⟨b, o + i, none⟩ = some (.int .i64 x))
theorem ArgI.at_ {W : World} {A : Option Addr} {k : Nat} {l : List Int} (h : ArgI W A k l) (i : Nat) (hi : i < k) : ∃ b o x, A = some ⟨b, o, none⟩ ∧ l[i]? = some x ∧ b < W.heap.size ∧ (-9223372036854775808 ≤ x ∧ x ≤ 9223372036854775807) ∧ W.cell? ⟨b, o + i, none⟩ = some (.int .i64 x) := by
  obtain ⟨hl, -, hin, hx⟩ := h
  obtain ⟨b, o, e, hb, hc⟩ := hx (by omega)
  have hi' : l[i]? = some l[i] := List.getElem?_eq_getElem (by omega)
  exact ⟨b, o, _, e, hi', hb, hin _ (List.getElem_mem _), hc i _ hi'⟩
theorem ArgI.below {W W' : World} {A : Option Addr} {k : Nat} {l : List Int} (h : ArgI W A k l) (hb : Below W.heap.size W W') : ArgI W' A k l := by
  obtain ⟨hl, h2, hin, hx⟩ := h
  refine ⟨hl, h2, hin, fun h0 => ?_⟩
  obtain ⟨b, o, e, hbl, hc⟩ := hx h0
  exact ⟨b, o, e, Nat.lt_of_lt_of_le hbl hb.size, fun i x hi => bcell hb (hc i x hi)⟩
theorem ArgI.size {W : World} {A : Option Addr} {k : Nat} {l : List Int} (h : ArgI W A k l) : k ≤ 9223372036854775807 := by have := h.2.1; unfold maxLen at this; omega
theorem open_ints {H : Type} {enc : TypeId × Value → H} {W : World} {n : Nat} {v : Value} {y : DataW H × List MemPlace}
    (h : DataW.trod enc Try.prog W 0 (fun _ => true) true n 35 [v] = some y) : ∃ (A : Option Addr) (k c : Nat) (l : List Int), v = .slice A k c ∧ ArgI W A k l := by
  rcases open_slice Try.underlying35 h with ⟨hv, -⟩ | ⟨a, len, cap, m, n', D, Pl, hv, -, hl, hm, hmm, -, hx⟩
  · simp only [List.cons.injEq, and_true] at hv
    exact ⟨none, 0, 0, [], hv, rfl, Nat.zero_le _, fun x hx => (by cases hx), fun q => absurd q (by omega)⟩
  · simp only [List.cons.injEq, and_true] at hv
    have hlm : len ≤ m := by rw [hmm]; split <;> omega
    have ce : Try.prog.cellsOf 3 = 1 := by kernel_rfl
    have each : ∀ i, i < m → ∃ q : Int, (-9223372036854775808 ≤ q ∧ q ≤ 9223372036854775807) ∧ W.cell? (a.add i) = some (.int .i64 q) := by
      intro i hi
      obtain ⟨cs', h1, h2⟩ := hx i hi
      rw [ce] at h1
      obtain ⟨_, hlen, hcell⟩ := World.cells?_some h1
      match cs', hlen with
      | [v0], _ =>
        have e0 := hcell 0 (by omega)
        rw [add_add] at e0
        obtain ⟨a0, q0, -, w0⟩ := DataW.trod_int Try.underlying3 h2
        simp only [List.cons.injEq, and_true] at q0
        subst q0
        exact ⟨a0, bounds_i64 w0, by simpa using e0⟩
    obtain ⟨q, hq⟩ := choose_lt each
    refine ⟨some a, len, cap, (List.range len).map q, hv, by simp, Nat.le_trans hl hm, ?_, fun h0 => ?_⟩
    · intro x hx
      obtain ⟨i, hi, rfl⟩ := List.mem_map.1 hx
      have hi := List.mem_range.1 hi
      exact (hq i (by omega)).1
    · have hs : a.spot = none := by
        have := (hq 0 (by omega)).2
        unfold World.cell? at this
        cases hsp : a.spot with
        | none => rfl
        | some z => simp [Addr.add, hsp] at this; split at this <;> cases this
      obtain ⟨b, o, sp⟩ := a
      simp only at hs
      subst hs
      have hblt : b < W.heap.size := by
        have := (hq 0 (by omega)).2
        rw [Addr.add_lit] at this
        exact World.block_lt_of_cell? W _ this
      refine ⟨b, o, rfl, hblt, fun i x hi => ?_⟩
      rw [List.getElem?_map] at hi
      have hil : i < len := by
        rcases Nat.lt_or_ge i len with q' | q'
        · exact q'
        · rw [List.getElem?_eq_none (by simpa using q')] at hi; cases hi
      rw [List.getElem?_range hil] at hi
      simp only [Option.map_some, Option.some.injEq] at hi
      subst hi
      have := (hq i (by omega)).2
      rw [Addr.add_lit] at this
      exact this
/-- the slice at A of k bytes came in; it holds the list l -/
def ArgO (W : World) (A : Option Addr) (k : Nat) (l : List Bool) : Prop :=
  l.length = k ∧ k ≤ maxLen ∧ (∀ x ∈ l, True) ∧ (0 < k → ∃ b o, A = some ⟨b, o, none⟩ ∧ b < W.heap.size ∧ ∀ (i : Nat) (x : Bool), l[i]? = some x → W.cell? ⟨b, o + i, none⟩ = some (.bool x))
theorem ArgO.at_ {W : World} {A : Option Addr} {k : Nat} {l : List Bool} (h : ArgO W A k l) (i : Nat) (hi : i < k) : ∃ b o x, A = some ⟨b, o, none⟩ ∧ l[i]? = some x ∧ b < W.heap.size ∧ True ∧ W.cell? ⟨b, o + i, none⟩ = some (.bool x) := by
  obtain ⟨hl, -, hin, hx⟩ := h
  obtain ⟨b, o, e, hb, hc⟩ := hx (by omega)
  have hi' : l[i]? = some l[i] := List.getElem?_eq_getElem (by omega)
  exact ⟨b, o, _, e, hi', hb, trivial, hc i _ hi'⟩
theorem ArgO.below {W W' : World} {A : Option Addr} {k : Nat} {l : List Bool} (h : ArgO W A k l) (hb : Below W.heap.size W W') : ArgO W' A k l := by
  obtain ⟨hl, h2, hin, hx⟩ := h
  refine ⟨hl, h2, hin, fun h0 => ?_⟩
  obtain ⟨b, o, e, hbl, hc⟩ := hx h0
  exact ⟨b, o, e, Nat.lt_of_lt_of_le hbl hb.size, fun i x hi => bcell hb (hc i x hi)⟩
theorem ArgO.size {W : World} {A : Option Addr} {k : Nat} {l : List Bool} (h : ArgO W A k l) : k ≤ 9223372036854775807 := by have := h.2.1; unfold maxLen at this; omega
theorem open_bools {H : Type} {enc : TypeId × Value → H} {W : World} {n : Nat} {v : Value} {y : DataW H × List MemPlace}
    (h : DataW.trod enc Try.prog W 0 (fun _ => true) true n 43 [v] = some y) : ∃ (A : Option Addr) (k c : Nat) (l : List Bool), v = .slice A k c ∧ ArgO W A k l := by
  rcases open_slice Try.underlying43 h with ⟨hv, -⟩ | ⟨a, len, cap, m, n', D, Pl, hv, -, hl, hm, hmm, -, hx⟩
  · simp only [List.cons.injEq, and_true] at hv
    exact ⟨none, 0, 0, [], hv, rfl, Nat.zero_le _, fun x hx => (by cases hx), fun q => absurd q (by omega)⟩
  · simp only [List.cons.injEq, and_true] at hv
    have hlm : len ≤ m := by rw [hmm]; split <;> omega
    have ce : Try.prog.cellsOf 4 = 1 := by kernel_rfl
    have each : ∀ i, i < m → ∃ q : Bool, True ∧ W.cell? (a.add i) = some (.bool q) := by
      intro i hi
      obtain ⟨cs', h1, h2⟩ := hx i hi
      rw [ce] at h1
      obtain ⟨_, hlen, hcell⟩ := World.cells?_some h1
      match cs', hlen with
      | [v0], _ =>
        have e0 := hcell 0 (by omega)
        rw [add_add] at e0
        obtain ⟨a0, q0, -⟩ := DataW.trod_bool Try.underlying4 h2
        simp only [List.cons.injEq, and_true] at q0
        subst q0
        exact ⟨a0, trivial, by simpa using e0⟩
    obtain ⟨q, hq⟩ := choose_lt each
    refine ⟨some a, len, cap, (List.range len).map q, hv, by simp, Nat.le_trans hl hm, ?_, fun h0 => ?_⟩
    · intro x hx
      obtain ⟨i, hi, rfl⟩ := List.mem_map.1 hx
      have hi := List.mem_range.1 hi
      exact (hq i (by omega)).1
    · have hs : a.spot = none := by
        have := (hq 0 (by omega)).2
        unfold World.cell? at this
        cases hsp : a.spot with
        | none => rfl
        | some z => simp [Addr.add, hsp] at this; split at this <;> cases this
      obtain ⟨b, o, sp⟩ := a
      simp only at hs
      subst hs
      have hblt : b < W.heap.size := by
        have := (hq 0 (by omega)).2
        rw [Addr.add_lit] at this
        exact World.block_lt_of_cell? W _ this
      refine ⟨b, o, rfl, hblt, fun i x hi => ?_⟩
      rw [List.getElem?_map] at hi
      have hil : i < len := by
        rcases Nat.lt_or_ge i len with q' | q'
        · exact q'
        · rw [List.getElem?_eq_none (by simpa using q')] at hi; cases hi
      rw [List.getElem?_range hil] at hi
      simp only [Option.map_some, Option.some.injEq] at hi
      subst hi
      have := (hq i (by omega)).2
      rw [Addr.add_lit] at this
      exact this
end Go.Proofs.Ytmeldgnjgogacaa.Re

namespace Go.Proofs.Ytmeldgnjgogacaa.Re
set_option maxRecDepth 100000
open Go.RowKit Go.Proofs.Ytmeldgnjgogacaa.Wire
open Go.Proofs.Ytmeldgnjgogacaa.Ip (Pk)
open Go.Proofs.Ytmeldgnjgogacaa.Gen (pick pick_lt)

/-- an empty slice is appended -/
theorem append_none {P : Program} (W : World) (t ty e : TypeId) (i : TypeInfo) (ht : P.underlying t = some (.slice e)) (hi : P.info? e = some i) (A B : Option Addr) (n c m d : Nat) (hn : n ≤ c) (hm : m = 0) :
    (Builtin.append_ #[t, t] ty #[.slice A n c, .slice B m d]).run P W = .ok (.slice A n c) W := by
  subst hm
  cases A <;> cases B <;> simp [Builtin.append_, run_underlying ht, sizeOf, typeInfo, hi, hn, Builtin.firstCells, Builtin.lenOf, loadCells, storeCells, loadCellsFrom]
theorem step_append_none {P : Program} (w : World) {ops : Array Oper} {o : Oper} {a : Act} {K : Act → World → Prop} {Q : Exit → Act → World → Prop} {E : Prop} (hgd : o.guard = none) (s x : Operand) (t : TypeId)
    (ho : o.op = .call { callee := .builtin .append, args := #[s, x], argTypes := #[t, t] }) (e : TypeId) (i : TypeInfo) (ht : P.underlying t = some (.slice e)) (hi : P.info? e = some i) (A B : Option Addr) (n c m d : Nat)
    (hs : a.eval s = .slice A n c) (hx : a.eval x = .slice B m d) (hn : n ≤ c) (hm : m = 0) (h : K (a.put o.dst (.slice A n c)) w) :
    if Region.wanted o (yielded ops a.tmps) = true then Oper.wp P o a w K Q else E := by
  have hw : Region.wanted o (yielded ops a.tmps) = true := by simp [Region.wanted, hgd]
  rw [if_pos hw]
  have hr := append_none (P := P) w t o.type e i ht hi A B n c m d hn hm
  unfold Oper.wp execOp
  simp only [ho, resolve, invoke, builtin, Sem.run_bind, Sem.run_pure, Result.andThen_ok, List.map_toArray, List.map_cons, List.map_nil, hs, hx, hr]
  exact h
/-- the two lists in the middle of turned -/
structure Tn (w : World) (L O : List Pk) (DL : Option Addr) (dl : Nat) (DO : Option Addr) (dO : Nat) (W : World) : Prop where
  bel : Below w.heap.size w W
  left : PRow W w.heap.size DL dl L
  out : PRow W w.heap.size DO dO O
  ne : ∀ a b, DL = some a → DO = some b → a.block ≠ b.block
section
variable {w W W' : World} {L O : List Pk} {DL DO : Option Addr} {dl dO : Nat}
theorem Tn.below (h : Tn w L O DL dl DO dO W) (hb : Below W.heap.size W W') : Tn w L O DL dl DO dO W' := ⟨below_call h.bel hb, h.left.below hb, h.out.below hb, h.ne⟩
theorem ob_bk {D : Option Addr} {n d k : Nat} (e : Value.ownBlock (.slice D n d) = some k) : BK D k := by
  cases D with
  | none => cases e
  | some a => exact ⟨a, rfl, by simpa [Value.ownBlock] using e⟩
theorem Tn.app {g cap : Nat} {p : Pk} (h : Tn w L O DL dl DO dO W) (ho : W'.ownsRow w.heap.size 30 9 (.slice (some ⟨g, 0, none⟩) (O.length + 1) cap) (O.length + 1) (pkC O ++ [.int .i64 p.f, .int .i64 p.t, .int .i64 p.pr, .int .i64 p.ttl, .int .i64 p.id, .bool p.df, .bool p.mf, .int .i64 p.off, .string p.s]))
    (hg : W.grownBy W' (Value.ownBlock (.slice DO O.length dO))) (hw : Value.ownBlock (.slice DO O.length dO) = some g ∨ W.heap.size ≤ g) : Tn w L (O ++ [p]) DL dl (some ⟨g, 0, none⟩) cap W' := by
  refine ⟨h.bel.grown hg (by have := h.bel.size; omega) (fun k e => (h.out.bk (ob_bk e)).1), h.left.keptK (fun q hq hl => hg.block q hl (fun e => ?_)), ?_, fun a b e1 e2 => ?_⟩
  · obtain ⟨a, ea, rfl⟩ := hq
    obtain ⟨b, eb, hb⟩ := ob_bk e.symm
    exact h.ne a b ea eb hb.symm
  · have : (O ++ [p]).length = O.length + 1 := by simp
    unfold PRow
    rw [this, pkC_snoc]
    exact ho
  · cases e2
    rcases hw with q | q
    · obtain ⟨b, eb, hb⟩ := ob_bk q
      rw [show (⟨g, 0, none⟩ : Addr).block = g from rfl, ← hb]
      exact h.ne a b e1 eb
    · have := h.left.bk ⟨a, e1, rfl⟩
      show a.block ≠ g
      omega
end
end Go.Proofs.Ytmeldgnjgogacaa.Re

namespace Go.Proofs.Ytmeldgnjgogacaa.Re
set_option maxRecDepth 100000
open Go.RowKit Go.Proofs.Ytmeldgnjgogacaa.Wire
open Go.Proofs.Ytmeldgnjgogacaa.Ip (Pk)
open Go.Proofs.Ytmeldgnjgogacaa.Gen (pick pick_lt)

/-- what is kept: all that was there is left or out, and nothing else -/
structure Keeps (l L O : List Pk) : Prop where
  a : ∀ P ∈ L, P ∈ l
  b : ∀ P ∈ O, P ∈ l
  c : ∀ P ∈ l, P ∈ L ∨ P ∈ O
  n : O.length + 2 * L.length ≤ 2 * l.length
theorem Keeps.out {l L O : List Pk} (h : Keeps l L O) {k : Nat} {p : Pk} (hk : L[k]? = some p) {O' : List Pk} (ho : O' = O ++ [p] ∨ O' = O ++ [p] ++ [p]) : Keeps l (L.take k ++ L.drop (k + 1)) O' := by
  have hp := List.mem_of_getElem? hk
  have hkl := (List.getElem?_eq_some_iff.1 hk).1
  have hO : ∀ P, P ∈ O' ↔ P ∈ O ∨ P = p := fun P => by rcases ho with rfl | rfl <;> simp
  refine ⟨fun P hP => ?_, fun P hP => ?_, fun P hP => ?_, ?_⟩
  · rcases List.mem_append.1 hP with q | q
    · exact h.a P (List.mem_of_mem_take q)
    · exact h.a P (List.mem_of_mem_drop q)
  · rcases (hO P).1 hP with q | q
    · exact h.b P q
    · rw [q]; exact h.a p hp
  · rcases h.c P hP with q | q
    · obtain ⟨i, hi, e⟩ := List.getElem_of_mem q
      rcases Nat.lt_trichotomy i k with r | r | r
      · refine .inl (List.mem_append.2 (.inl ?_))
        rw [← e]
        exact List.mem_of_getElem? (show (L.take k)[i]? = some L[i] by rw [List.getElem?_take, if_pos r, List.getElem?_eq_getElem])
      · subst r
        rw [List.getElem?_eq_getElem hi] at hk
        cases hk
        exact .inr ((hO P).2 (.inr e.symm))
      · refine .inl (List.mem_append.2 (.inr ?_))
        rw [← e]
        exact List.mem_of_getElem? (show (L.drop (k + 1))[i - (k + 1)]? = some L[i] by rw [List.getElem?_drop, show k + 1 + (i - (k + 1)) = i by omega, List.getElem?_eq_getElem])
    · exact .inr ((hO P).2 (.inl q))
  · have hl : (L.take k ++ L.drop (k + 1)).length = L.length - 1 := by rw [List.length_append, List.length_take, List.length_drop]; omega
    have h1 := h.n
    rcases ho with rfl | rfl
    · rw [hl]; simp; omega
    · rw [hl]; simp; omega
theorem pkC_one (l : List Pk) : ∀ u ∈ pkC l, u.oneCell' = true := by
  intro u hu
  unfold pkC at hu
  obtain ⟨p, -, hp⟩ := List.mem_flatMap.1 hu
  simp only [List.mem_cons, List.not_mem_nil, or_false] at hp
  rcases hp with rfl | rfl | rfl | rfl | rfl | rfl | rfl | rfl | rfl <;> rfl
theorem Tn.fresh {w W W' : World} {L O : List Pk} {DL DO D : Option Addr} {dl dO d : Nat} (h : Tn w L O DL dl DO dO W) (hb : Below W.heap.size W W') {L' : List Pk} (hr : PRow W' W.heap.size D d L') : Tn w L' O D d DO dO W' :=
  ⟨below_call h.bel hb, prow_mono hr h.bel.size, h.out.below hb, fun a b e1 e2 => by
    have h1 := (hr.bk ⟨a, e1, rfl⟩).1
    have h2 := (h.out.bk ⟨b, e2, rfl⟩).2
    omega⟩
set_option maxHeartbeats 8000000 in
theorem turned_any (l : List Pk) (lo : Nat) (B : Option Addr) (c : Nat) (A : Option Addr) (nt ct : Nat) (tl : List Int) (w : World) (hl : PRow w lo B c l) (hn : 1 ≤ l.length ∧ l.length ≤ 1000) (hA : ArgI w A nt tl) :
    Calls Try.prog 29 #[.slice B l.length c, .slice A nt ct] w fun x w' => ∃ all D d, x = .returned (.slice D all.length d) ∧ PRow w' w.heap.size D d all ∧ all.length ≤ 2 * l.length ∧ (∀ P ∈ all, P ∈ l) ∧ (∀ P ∈ l, P ∈ all) ∧ Below w.heap.size w w' := by
  have HA := Lib.hid hA
  have hnt := hA.size
  obtain ⟨i0, hi, hz0, hz1, hz2⟩ := info_parts infoPkA
  have HI := Lib.hid hi; have HZ0 := Lib.hid hz0; have HZ1 := Lib.hid hz1; have HZ2 := Lib.hid hz2
  obtain ⟨g0, rfl, hg0⟩ := hl.addr (by omega)
  have HL := Lib.hid hl
  clear hA hi hz0 hz1 hz2 hl
  obtain ⟨N, hN⟩ : ∃ N, l.length = N := ⟨_, rfl⟩
  have HN := Lib.hid hN
  rw [hN] at hn
  have hnews : ∀ (j : Nat) (u : Value), (pkC l)[j]? = some u → w.cell? ((⟨g0, 0, none⟩ : Addr).add j) = some u := World.ownsRow.cells HL.out rfl
  have hcl : (pkC l).length = N * 9 := by rw [pkC_length, hN]
  have hone : ∀ u ∈ pkC l, u.oneCell' = true := pkC_one l
  rw [hN]
  clear hN
  go_enter Try.func29, Try.ntmps29
  go_wp2_with (at_builtin; refine wpList_append_lies _ rfl (.const (.slice none 0 0)) (.tmp 9) 37 rfl w.heap.size 30 i0 (.agg #[.int .i64 0, .int .i64 0, .int .i64 0, .int .i64 0, .int .i64 0, .bool false, .bool false, .int .i64 0, .string ⟨#[]⟩]) 9 72 Try.underlying37 HI.out HZ0.out HZ1.out HZ2.out rfl (by decide) (.slice none 0 0) 0 [] rfl ⟨rfl, .inl ⟨rfl, rfl⟩⟩ ⟨g0, 0, none⟩ N c (pkC l) rfl hcl hnews hone (by omega) (by unfold maxLen; omega) (by omega) (Nat.le_refl _) w.heap.size rfl ?_; intro g cap w7 hown hgrow hat hlt)
  have hrow : PRow w7 w.heap.size (some ⟨g, 0, none⟩) cap l := by
    unfold PRow
    rw [HN.out]
    simpa using hown
  have HT0 : Hid (Tn w l [] (some ⟨g, 0, none⟩) cap none 0 w7) := Lib.hid ⟨(Below.refl w.heap.size w).grown hgrow (Nat.le_refl _) (fun k e => by simp [Value.ownBlock] at e), hrow, ⟨rfl, .inl ⟨rfl, rfl⟩⟩, fun a b _ e => by cases e⟩
  clear hrow hown hgrow hat hlt hnews hcl hone
  go_wp2_with fail
  go_loopw [5, 6, 7] (fun x y i wr => ∃ (k : Nat) (L O : List Pk) (DL : Option Addr) (dl : Nat) (DO : Option Addr) (dO : Nat), k + L.length = l.length ∧ i = .int .i64 (k : Int) ∧ x = .slice DL L.length dl ∧ y = .slice DO O.length dO ∧ Keeps l L O ∧ Tn w L O DL dl DO dO wr) (fun _ _ i _ => l.length - (Go.RowKit.intOf i).toNat)
  case atStart => exact ⟨0, l, [], _, _, none, 0, by omega, rfl, by rw [HN.out], rfl, ⟨fun _ h => h, (fun _ h => by cases h), fun _ h => .inl h, by simp⟩, HT0.out⟩
  case round =>
    clear HT0
    obtain ⟨k, L, O, DL, dl, DO, dO, hkl, rfl, rfl, rfl, hK, hT⟩ := hrel
    have HK := Lib.hid hK; have HT := Lib.hid hT
    have hOn := hK.n
    clear hK hT
    have HN1 := HN.out
    rw [HN1] at hkl hOn
    obtain ⟨wx, rfl⟩ : ∃ wo : World, wo = wr := ⟨_, rfl⟩
    by_cases h0 : L.length = 0
    · have hL : L = [] := List.eq_nil_of_length_eq_zero h0
      subst hL
      go_wp2_with fail
      go_ret
      refine ⟨O, DO, dO, rfl, HT.out.out, by simp at hOn; omega, HK.out.b, fun P hP => ?_, HT.out.bel⟩
      rcases HK.out.c P hP with q | q
      · cases q
      · exact q
    · have hL0 : 0 < L.length := by omega
      have d0 : decide ((0 : Int) < (L.length : Int)) = true := decide_eq_true (by omega)
      obtain ⟨g1, rfl, hg1⟩ := HT.out.left.addr hL0
      obtain ⟨M, hM⟩ : ∃ M, L.length = M := ⟨_, rfl⟩
      have HM := Lib.hid hM
      rw [hM] at hkl hOn hL0 d0 ⊢
      clear h0 hM
      go_upto_if 18 with fail
      go_cut [6, 8] (fun y z wz => ∃ (kk : Nat) (O' : List Pk) (DO' : Option Addr) (dO' : Nat) (p : Pk), L[kk]? = some p ∧ z = .int .i64 (kk : Int) ∧ y = .slice DO' O'.length dO' ∧ (O' = O ∨ O' = O ++ [p]) ∧ Tn w L O' (some ⟨g1, 0, none⟩) dl DO' dO' wz)
      case first =>
        by_cases hn0 : nt = 0
        · subst hn0
          go_wp2_with fail
          go_meet
          exact ⟨0, O, DO, dO, L[0]'(by have := HM.out; omega), List.getElem?_eq_getElem _, rfl, rfl, .inl rfl, HT.out⟩
        · have t0 : decide ((0 : Int) < (nt : Int)) = true := decide_eq_true (by omega)
          have ne0 : ¬ ((nt : Int) = 0) := by omega
          have nz : ((nt : Int) == 0) = false := by rw [beq_eq_false_iff_ne]; omega
          have hmod := Nat.mod_lt k (show 0 < nt by omega)
          obtain ⟨ab, ao, tv, hAe, htl, hablt, htb, hcell⟩ := (HA.out.below HT.out.bel).at_ (k % nt) hmod
          subst hAe
          obtain ⟨m, hm⟩ : ∃ m, k % nt = m := ⟨_, rfl⟩
          rw [hm] at hcell hmod
          have hmi : (k : Int) % (nt : Int) = (m : Int) := by rw [← hm]; omega
          have m1 : (m : Int) < (nt : Int) := by omega
          have m0 : (0 : Int) ≤ (m : Int) := by omega
          clear hm htl
          have hp1 := pick_lt tv (M : Int) (by omega)
          have hp2 := pick_lt tv 5 (by omega)
          have HPA := Lib.hid (fun W => Udp.pick_any tv (M : Int) W htb.1 htb.2 (by omega) (by omega))
          have HPB := Lib.hid (fun W => Udp.pick_any tv 5 W htb.1 htb.2 (by omega) (by omega))
          obtain ⟨z, hz⟩ := Int.eq_ofNat_of_zero_le hp1.1
          rw [hz] at HPA hp1
          obtain ⟨z5, hz5⟩ : ∃ z5, pick tv 5 = z5 := ⟨_, rfl⟩
          rw [hz5] at HPB
          clear hz hz5 hp2
          go_wp2_with fail
          refine (HPA.out _).mono ?_
          rintro x v ⟨rfl, rfl⟩
          go_wp2_with fail
          refine (HPB.out _).mono ?_
          rintro x v ⟨rfl, rfl⟩
          obtain ⟨p, hp⟩ : ∃ p, L[z]? = some p := ⟨_, List.getElem?_eq_getElem (by have := HM.out; omega)⟩
          have hz0 : (0 : Int) ≤ (z : Int) := by omega
          have hzM : (z : Int) < (M : Int) := by omega
          obtain ⟨b4, hb4⟩ : ∃ b4, (z5 == 4) = b4 := ⟨_, rfl⟩
          have HP := Lib.hid hp
          cases b4 with
          | false =>
            go_wp2_with fail
            go_meet
            exact ⟨z, O, DO, dO, p, HP.out, rfl, rfl, .inl rfl, HT.out⟩
          | true =>
            clear hcell hp
            obtain ⟨c0, c1, c2, c3, c4, c5, c6, c7, c8⟩ := HT.out.left.cells HP.out
            have hsz := HT.out.bel.size
            go_wp2_with (at_builtin; refine wpList_append_lies _ rfl (.tmp 38) (.tmp 43) 37 rfl w.heap.size 30 i0 (.agg #[.int .i64 0, .int .i64 0, .int .i64 0, .int .i64 0, .int .i64 0, .bool false, .bool false, .int .i64 0, .string ⟨#[]⟩]) 9 72 Try.underlying37 HI.out HZ0.out HZ1.out HZ2.out rfl (by decide) (.slice DO O.length dO) O.length (pkC O) rfl (HT.out.out.alloc _) ⟨wx.heap.size, 0, none⟩ 1 1 [.int .i64 p.f, .int .i64 p.t, .int .i64 p.pr, .int .i64 p.ttl, .int .i64 p.id, .bool p.df, .bool p.mf, .int .i64 p.off, .string p.s] rfl rfl (World.news_of_block (heap_alloc_new wx _)) (by simp [Value.oneCell']) (by omega) (by unfold maxLen; omega) (by omega) (by simp; omega) (wx.heap.size + 1) (by simp) ?_; intro g cap w7 hown hgrow hat hlt)
            have HT2 := Lib.hid ((HT.out.below ((Below.refl _ _).alloc (Nat.le_refl _) (.cells #[.int .i64 p.f, .int .i64 p.t, .int .i64 p.pr, .int .i64 p.ttl, .int .i64 p.id, .bool p.df, .bool p.mf, .int .i64 p.off, .string p.s] 30))).app (p := p) hown hgrow (hat.imp id (fun q => by simp; omega)))

            clear hown hgrow hat hlt c0 c1 c2 c3 c4 c5 c6 c7 c8
            go_wp2_with fail
            go_meet
            exact ⟨z, O ++ [p], some ⟨g, 0, none⟩, cap, p, HP.out, rfl, by simp, .inr rfl, HT2.out⟩
      case rest =>
        obtain ⟨kk, O1, DO1, dO1, p, hp, rfl, rfl, hO', hT2⟩ := hcut
        clear HT
        have HT := Lib.hid hT2; have HP := Lib.hid hp; have HO := Lib.hid hO'
        have hkk := (List.getElem?_eq_some_iff.1 hp).1
        have hO1 : O1.length ≤ O.length + 1 := by rcases hO' with rfl | rfl <;> simp
        have hML := HM.out
        have hk0 : (0 : Int) ≤ (kk : Int) := by omega
        have hkM : (kk : Int) < (M : Int) := by omega
        clear hT2 hp hO' hML
        obtain ⟨wx, rfl⟩ : ∃ wo : World, wo = wc := ⟨_, rfl⟩
        obtain ⟨c0, c1, c2, c3, c4, c5, c6, c7, c8⟩ := HT.out.left.cells HP.out
        have hsz := HT.out.bel.size
        go_wp2_with (at_builtin; refine wpList_append_lies _ rfl (.tmp 45) (.tmp 50) 37 rfl w.heap.size 30 i0 (.agg #[.int .i64 0, .int .i64 0, .int .i64 0, .int .i64 0, .int .i64 0, .bool false, .bool false, .int .i64 0, .string ⟨#[]⟩]) 9 72 Try.underlying37 HI.out HZ0.out HZ1.out HZ2.out rfl (by decide) (.slice DO1 O1.length dO1) O1.length (pkC O1) rfl (HT.out.out.alloc _) ⟨wx.heap.size, 0, none⟩ 1 1 [.int .i64 p.f, .int .i64 p.t, .int .i64 p.pr, .int .i64 p.ttl, .int .i64 p.id, .bool p.df, .bool p.mf, .int .i64 p.off, .string p.s] rfl rfl (World.news_of_block (heap_alloc_new wx _)) (by simp [Value.oneCell']) (by omega) (by unfold maxLen; omega) (by omega) (by simp; omega) (wx.heap.size + 1) (by simp) ?_; intro g cap w7 hown hgrow hat hlt)
        have HT3 := Lib.hid ((HT.out.below ((Below.refl _ _).alloc (Nat.le_refl _) (.cells #[.int .i64 p.f, .int .i64 p.t, .int .i64 p.pr, .int .i64 p.ttl, .int .i64 p.id, .bool p.df, .bool p.mf, .int .i64 p.off, .string p.s] 30))).app (p := p) hown hgrow (hat.imp id (fun q => by simp; omega)))
        clear hown hgrow hat hlt c0 c1 c2 c3 c4 c5 c6 c7 c8 HT
        obtain ⟨K1, hK1⟩ : ∃ K1, L.take kk = K1 := ⟨_, rfl⟩
        obtain ⟨K2, hK2⟩ : ∃ K2, L.drop (kk + 1) = K2 := ⟨_, rfl⟩
        have hk1 : K1.length = kk := by rw [← hK1, List.length_take]; omega
        have hk2 : K2.length = M - (kk + 1) := by rw [← hK2, List.length_drop, HM.out]
        have hpkL : pkC L = pkC K1 ++ ([.int .i64 p.f, .int .i64 p.t, .int .i64 p.pr, .int .i64 p.ttl, .int .i64 p.id, .bool p.df, .bool p.mf, .int .i64 p.off, .string p.s] ++ pkC K2) := by
          have e : L = K1 ++ p :: K2 := by
            rw [← hK1, ← hK2]
            obtain ⟨hh, e⟩ := List.getElem?_eq_some_iff.1 HP.out
            rw [← e, List.getElem_cons_drop, List.take_append_drop]
          rw [e]
          simp [pkC, List.flatMap_append]
        have hl1 : (pkC K1).length = kk * 9 := by rw [pkC_length, hk1]
        have hl2 : (pkC K2).length = (M - (kk + 1)) * 9 := by rw [pkC_length, hk2]
        have hcells : ∀ W, Below w7.heap.size w7 W → ∀ (j : Nat) (u : Value), (pkC L)[j]? = some u → W.cell? ((⟨g1, 0, none⟩ : Addr).add j) = some u := fun W hW => World.ownsRow.cells (HT3.out.left.below hW) rfl
        have HN1 : Hid (∀ W, Below w7.heap.size w7 W → ∀ (j : Nat) (u : Value), (pkC K1)[j]? = some u → W.cell? ((⟨g1, 0, none⟩ : Addr).add j) = some u) := Lib.hid fun W hW j u hj => hcells W hW j u (by rw [hpkL, List.getElem?_append_left (by obtain ⟨h, -⟩ := List.getElem?_eq_some_iff.1 hj; exact h)]; exact hj)
        have HN2 : Hid (∀ W, Below w7.heap.size w7 W → ∀ (j : Nat) (u : Value), (pkC K2)[j]? = some u → W.cell? ((⟨g1, (kk + 1) * 9, none⟩ : Addr).add j) = some u) := Lib.hid fun W hW j u hj => by
          have := hcells W hW ((kk + 1) * 9 + j) u (by rw [hpkL, List.getElem?_append_right (by omega), hl1, List.getElem?_append_right (by simp; omega)]; simpa [show (kk + 1) * 9 + j - kk * 9 - 9 = j by omega] using hj)
          rw [Addr.add_lit] at this ⊢
          simpa using this
        clear hcells
        have hMd : M ≤ dl := by
          rw [← HM.out]
          rcases HT3.out.left.2 with ⟨e, -⟩ | ⟨g', cap', cur, e, -, -, h, -⟩
          · cases e
          · injection e with e1 e2 e3
            rw [e3]; exact h
        have hkd : kk ≤ dl := by omega
        have hsz7 := HT3.out.bel.size
        have hko := pkC_one K1
        have hko2 := pkC_one K2
        by_cases hkz : kk = 0
        · by_cases hkl2 : kk + 1 = M
          · have hle1 : (kk : Int) + 1 ≤ (M : Int) := by omega
            have hle0 : (0 : Int) ≤ (kk : Int) + 1 := by omega
            have hwk : IntKind.i64.wrap ((kk : Int) + 1) = (kk : Int) + 1 := IntWalk.i64_in _ (by omega)
            have hto : ((kk : Int) + 1).toNat = kk + 1 := by omega
            have HZ00 : Hid (M - (kk + 1) = 0) := Lib.hid (by omega)
            clear hkl2
            have HKZ := Lib.hid hkz; clear hkz
            have HR := Below.refl w7.heap.size w7
            refine wp_region_held_drew (S := fun w' => Below w7.heap.size w7 w') (by kernel_rfl) HR.drew ?_
            intro hS
            refine wpAnyH_take (oi := ⟨some 52, _, _, _, _, _⟩) (i := 0) (v := ?vad0) rfl (by kernel_rfl) (by kernel_rfl) (by kernel_rfl) (fun _ _ _ h => h) (Or.inl ⟨by rfl, ?hyad0⟩) (by exact hS) ?read0
            case hyad0 => (intro ww hSw; (try dsimp only at hSw); go_simp; first | done | with_reducible rfl)
            simp only [Act.put, List.setIfInBounds_toArray, List.set_cons_zero, List.set_cons_succ]
            refine wpAnyH_take (oi := ⟨some 53, _, _, _, _, _⟩) (i := 1) (v := ?vad1) rfl (by kernel_rfl) (by kernel_rfl) (by kernel_rfl) (fun _ _ _ h => h) (Or.inl ⟨by rfl, ?hyad1⟩) (by exact hS) ?read1
            case hyad1 => (intro ww hSw; (try dsimp only at hSw); go_simp; first | done | with_reducible rfl)
            simp only [Act.put, List.setIfInBounds_toArray, List.set_cons_zero, List.set_cons_succ]
            refine wpAnyH_take (oi := ⟨some 54, _, _, _, _, _⟩) (i := 2) (v := ?vad2) rfl (by kernel_rfl) (by kernel_rfl) (by kernel_rfl) (fun _ _ _ h => h) (Or.inl ⟨by rfl, ?hyad2⟩) (by exact hS) ?read2
            case hyad2 => (intro ww hSw; (try dsimp only at hSw); go_simp; first | done | with_reducible rfl)
            simp only [Act.put, List.setIfInBounds_toArray, List.set_cons_zero, List.set_cons_succ]
            refine wpAnyH_take (oi := ⟨some 56, _, _, _, _, _⟩) (i := 4) (v := ?vad4) rfl (by kernel_rfl) (by kernel_rfl) (by kernel_rfl) (fun _ _ _ h => h) (Or.inl ⟨by rfl, ?hyad4⟩) (by exact hS) ?read4
            case hyad4 => (intro ww hSw; (try dsimp only at hSw); go_simp; first | done | with_reducible rfl)
            simp only [Act.put, List.setIfInBounds_toArray, List.set_cons_zero, List.set_cons_succ]
            refine wpAnyH_take (oi := ⟨some 57, _, _, _, _, _⟩) (i := 5) (v := ?vad5) rfl (by kernel_rfl) (by kernel_rfl) (by kernel_rfl) (fun _ _ _ h => h) (Or.inl ⟨by rfl, ?hyad5⟩) (by exact hS) ?read5
            case hyad5 => (intro ww hSw; (try dsimp only at hSw); go_simp; first | done | with_reducible rfl)
            simp only [Act.put, List.setIfInBounds_toArray, List.set_cons_zero, List.set_cons_succ]
            refine wpAnyH_take (oi := ⟨some 58, _, _, _, _, _⟩) (i := 6) (v := ?vad6) rfl (by kernel_rfl) (by kernel_rfl) (by kernel_rfl) (fun _ _ _ h => h) (Or.inl ⟨by rfl, ?hyad6⟩) (by exact hS) ?read6
            case hyad6 => (intro ww hSw; (try dsimp only at hSw); go_simp; first | done | with_reducible rfl)
            simp only [Act.put, List.setIfInBounds_toArray, List.set_cons_zero, List.set_cons_succ]
            refine wpAnyH_take (oi := ⟨some 59, _, _, _, _, _⟩) (i := 7) (v := ?vad7) rfl (by kernel_rfl) (by kernel_rfl) (by kernel_rfl) (fun _ _ _ h => h) (Or.inl ⟨by rfl, ?hyad7⟩) (by exact hS) ?read7
            case hyad7 => (intro ww hSw; (try dsimp only at hSw); go_simp; first | done | with_reducible rfl)
            simp only [Act.put, List.setIfInBounds_toArray, List.set_cons_zero, List.set_cons_succ]
            refine wpAnyH_ready (rs := [3]) (by kernel_rfl) (by simp) ?_
            refine AllReadyH.cons rfl (fun K hK => ?_) AllReadyH.nil
            refine step_append_none _ (by rfl) (.const (.slice none 0 0)) (.tmp 54) 37 rfl 30 i0 Try.underlying37 HI.out none (some ⟨g1, 0, none⟩) 0 0 kk dl rfl rfl (Nat.le_refl _) HKZ.out ?_
            refine hK.out _ _ hS (fun h1 => ?_)
            have HBa := Lib.hid HR.drew
            simp only [Act.put, List.setIfInBounds_toArray]
            refine wpAnyH_ready (rs := [8]) (by kernel_rfl) (by simp) ?_
            refine AllReadyH.cons rfl (fun K3 hK3 => ?_) AllReadyH.nil
            refine step_append_none _ (by rfl) (.tmp 55) (.tmp 59) 37 rfl 30 i0 Try.underlying37 HI.out none _ 0 0 (M - (kk + 1)) (dl - (kk + 1)) rfl rfl (Nat.le_refl _) HZ00.out ?_
            refine hK3.out _ _ HBa.out (fun h1 => ?_)
            have hlen : (K1 ++ K2).length = 0 := by have q1 := HZ00.out; have q2 := HKZ.out; rw [List.length_append, hk1, hk2] <;> omega
            have HOb : Hid (PRow w7.drew w7.heap.size none 0 (K1 ++ K2)) := Lib.hid (by rw [List.eq_nil_of_length_eq_zero hlen]; exact PRow.nil _ _)
            have HEL := Lib.hid hlen
            clear hlen
            simp only [Act.put]
            refine wpAnyH_take (oi := ⟨some 5, _, _, _, _, _⟩) (i := 9) (v := ?vbd9) rfl (by kernel_rfl) (by kernel_rfl) (by kernel_rfl) (fun _ _ _ h => h) (Or.inl ⟨by rfl, ?hybd9⟩) (by exact h1) ?rebd9
            case hybd9 => (intro ww hSw; (try dsimp only at hSw); go_simp; first | done | with_reducible rfl)
            simp only [Act.put]
            refine wpAnyH_done (by kernel_rfl) ?_ _
            go_wp2_with fail
            refine ⟨⟨k + 1, K1 ++ K2, O1 ++ [p], none, 0, some ⟨g, 0, none⟩, cap, ?_, by go_num, by rw [HEL.out], by simp, ?_, HT3.out.fresh HBa.out HOb.out⟩, by simp [Go.RowKit.intOf]; omega⟩
            · rw [HEL.out]; have q2 := HKZ.out; have q1 := HZ00.out; omega
            · have h := HK.out.out HP.out (O' := O1 ++ [p]) (by rcases HO.out with q | q; (exact .inl (by rw [q])); (exact .inr (by rw [q])))
              rw [hK1, hK2] at h
              exact h
          · have hle1 : (kk : Int) + 1 ≤ (M : Int) := by omega
            have hle0 : (0 : Int) ≤ (kk : Int) + 1 := by omega
            have hwk : IntKind.i64.wrap ((kk : Int) + 1) = (kk : Int) + 1 := IntWalk.i64_in _ (by omega)
            have hto : ((kk : Int) + 1).toNat = kk + 1 := by omega
            have hne1 : ¬ (dl = kk + 1) := by omega
            have HKZ := Lib.hid hkz; clear hkz
            have HR := Below.refl w7.heap.size w7
            refine wp_region_held_drew (S := fun w' => Below w7.heap.size w7 w') (by kernel_rfl) HR.drew ?_
            intro hS
            refine wpAnyH_take (oi := ⟨some 52, _, _, _, _, _⟩) (i := 0) (v := ?vac0) rfl (by kernel_rfl) (by kernel_rfl) (by kernel_rfl) (fun _ _ _ h => h) (Or.inl ⟨by rfl, ?hyac0⟩) (by exact hS) ?reac0
            case hyac0 => (intro ww hSw; (try dsimp only at hSw); go_simp; first | done | with_reducible rfl)
            simp only [Act.put, List.setIfInBounds_toArray, List.set_cons_zero, List.set_cons_succ]
            refine wpAnyH_take (oi := ⟨some 53, _, _, _, _, _⟩) (i := 1) (v := ?vac1) rfl (by kernel_rfl) (by kernel_rfl) (by kernel_rfl) (fun _ _ _ h => h) (Or.inl ⟨by rfl, ?hyac1⟩) (by exact hS) ?reac1
            case hyac1 => (intro ww hSw; (try dsimp only at hSw); go_simp; first | done | with_reducible rfl)
            simp only [Act.put, List.setIfInBounds_toArray, List.set_cons_zero, List.set_cons_succ]
            refine wpAnyH_take (oi := ⟨some 54, _, _, _, _, _⟩) (i := 2) (v := ?vac2) rfl (by kernel_rfl) (by kernel_rfl) (by kernel_rfl) (fun _ _ _ h => h) (Or.inl ⟨by rfl, ?hyac2⟩) (by exact hS) ?reac2
            case hyac2 => (intro ww hSw; (try dsimp only at hSw); go_simp; first | done | with_reducible rfl)
            simp only [Act.put, List.setIfInBounds_toArray, List.set_cons_zero, List.set_cons_succ]
            refine wpAnyH_take (oi := ⟨some 56, _, _, _, _, _⟩) (i := 4) (v := ?vac4) rfl (by kernel_rfl) (by kernel_rfl) (by kernel_rfl) (fun _ _ _ h => h) (Or.inl ⟨by rfl, ?hyac4⟩) (by exact hS) ?reac4
            case hyac4 => (intro ww hSw; (try dsimp only at hSw); go_simp; first | done | with_reducible rfl)
            simp only [Act.put, List.setIfInBounds_toArray, List.set_cons_zero, List.set_cons_succ]
            refine wpAnyH_take (oi := ⟨some 57, _, _, _, _, _⟩) (i := 5) (v := ?vac5) rfl (by kernel_rfl) (by kernel_rfl) (by kernel_rfl) (fun _ _ _ h => h) (Or.inl ⟨by rfl, ?hyac5⟩) (by exact hS) ?reac5
            case hyac5 => (intro ww hSw; (try dsimp only at hSw); go_simp; first | done | with_reducible rfl)
            simp only [Act.put, List.setIfInBounds_toArray, List.set_cons_zero, List.set_cons_succ]
            refine wpAnyH_take (oi := ⟨some 58, _, _, _, _, _⟩) (i := 6) (v := ?vac6) rfl (by kernel_rfl) (by kernel_rfl) (by kernel_rfl) (fun _ _ _ h => h) (Or.inl ⟨by rfl, ?hyac6⟩) (by exact hS) ?reac6
            case hyac6 => (intro ww hSw; (try dsimp only at hSw); go_simp; first | done | with_reducible rfl)
            simp only [Act.put, List.setIfInBounds_toArray, List.set_cons_zero, List.set_cons_succ]
            refine wpAnyH_take (oi := ⟨some 59, _, _, _, _, _⟩) (i := 7) (v := ?vac7) rfl (by kernel_rfl) (by kernel_rfl) (by kernel_rfl) (fun _ _ _ h => h) (Or.inl ⟨by rfl, ?hyac7⟩) (by exact hS) ?reac7
            case hyac7 => (intro ww hSw; (try dsimp only at hSw); go_simp; first | done | with_reducible rfl)
            simp only [Act.put, List.setIfInBounds_toArray, List.set_cons_zero, List.set_cons_succ]
            refine wpAnyH_ready (rs := [3]) (by kernel_rfl) (by simp) ?_
            refine AllReadyH.cons rfl (fun K hK => ?_) AllReadyH.nil
            refine step_append_none _ (by rfl) (.const (.slice none 0 0)) (.tmp 54) 37 rfl 30 i0 Try.underlying37 HI.out none (some ⟨g1, 0, none⟩) 0 0 kk dl rfl rfl (Nat.le_refl _) HKZ.out ?_
            refine hK.out _ _ hS (fun h1 => ?_)
            have HBa := Lib.hid HR.drew
            simp only [Act.put, List.setIfInBounds_toArray]
            refine wpAnyH_ready (rs := [8]) (by kernel_rfl) (by simp) ?_
            refine AllReadyH.cons rfl (fun K3 hK3 => ?_) AllReadyH.nil
            refine step_append_lies _ (by rfl) (.tmp 55) (.tmp 59) 37 rfl w7.heap.size 30 i0 (.agg #[.int .i64 0, .int .i64 0, .int .i64 0, .int .i64 0, .int .i64 0, .bool false, .bool false, .int .i64 0, .string ⟨#[]⟩]) 9 72 Try.underlying37 HI.out HZ0.out HZ1.out HZ2.out rfl (by decide) (.slice none 0 0) 0 [] rfl ⟨rfl, .inl ⟨rfl, rfl⟩⟩ ⟨g1, (kk + 1) * 9, none⟩ (M - (kk + 1)) (dl - (kk + 1)) (pkC K2) rfl hl2 (HN2.out _ HBa.out) hko2 (by omega) (by unfold maxLen; omega) (by omega) (Nat.le_refl _) _ rfl ?_
            intro gb capb wb hownb hgrowb hatb hltb
            have HBb := Lib.hid (HBa.out.grown hgrowb (Nat.le_refl _) (fun k e => by simp [Value.ownBlock] at e))
            refine hK3.out _ _ HBb.out (fun h1 => ?_)
            have HOb : Hid (PRow wb w7.heap.size (some ⟨gb, 0, none⟩) capb (K1 ++ K2)) := Lib.hid (by
              have e1 : (K1 ++ K2).length = 0 + (M - (kk + 1)) := by have q2 := HKZ.out; rw [List.length_append, hk1, hk2] <;> omega
              have e2 : pkC (K1 ++ K2) = [] ++ pkC K2 := by rw [show K1 = [] from List.eq_nil_of_length_eq_zero (by have := HKZ.out; omega)]; rfl
              unfold PRow
              rw [e1, e2]
              exact hownb)
            have HEL : Hid ((K1 ++ K2).length = M - (kk + 1)) := Lib.hid (by have q2 := HKZ.out; rw [List.length_append, hk1, hk2] <;> omega)
            clear hownb hgrowb hatb
            simp only [Act.put]
            refine wpAnyH_take (oi := ⟨some 5, _, _, _, _, _⟩) (i := 9) (v := ?vbc9) rfl (by kernel_rfl) (by kernel_rfl) (by kernel_rfl) (fun _ _ _ h => h) (Or.inl ⟨by rfl, ?hybc9⟩) (by exact h1) ?rebc9
            case hybc9 => (intro ww hSw; (try dsimp only at hSw); go_simp; first | done | with_reducible rfl)
            simp only [Act.put]
            refine wpAnyH_done (by kernel_rfl) ?_ _
            go_wp2_with fail
            refine ⟨⟨k + 1, K1 ++ K2, O1 ++ [p], (some ⟨gb, 0, none⟩), capb, some ⟨g, 0, none⟩, cap, ?_, by go_num, by rw [HEL.out], by simp, ?_, HT3.out.fresh HBb.out HOb.out⟩, by simp [Go.RowKit.intOf]; omega⟩
            · rw [HEL.out]; have q2 := HKZ.out; omega
            · have h := HK.out.out HP.out (O' := O1 ++ [p]) (by rcases HO.out with q | q; (exact .inl (by rw [q])); (exact .inr (by rw [q])))
              rw [hK1, hK2] at h
              exact h
        · by_cases hkl2 : kk + 1 = M
          · have hle1 : (kk : Int) + 1 ≤ (M : Int) := by omega
            have hle0 : (0 : Int) ≤ (kk : Int) + 1 := by omega
            have hwk : IntKind.i64.wrap ((kk : Int) + 1) = (kk : Int) + 1 := IntWalk.i64_in _ (by omega)
            have hto : ((kk : Int) + 1).toNat = kk + 1 := by omega
            have HZ00 : Hid (M - (kk + 1) = 0) := Lib.hid (by omega)
            clear hkl2
            have HR := Below.refl w7.heap.size w7
            refine wp_region_held_drew (S := fun w' => Below w7.heap.size w7 w') (by kernel_rfl) HR.drew ?_
            intro hS
            refine wpAnyH_take (oi := ⟨some 52, _, _, _, _, _⟩) (i := 0) (v := ?vab0) rfl (by kernel_rfl) (by kernel_rfl) (by kernel_rfl) (fun _ _ _ h => h) (Or.inl ⟨by rfl, ?hyab0⟩) (by exact hS) ?reab0
            case hyab0 => (intro ww hSw; (try dsimp only at hSw); go_simp; first | done | with_reducible rfl)
            simp only [Act.put, List.setIfInBounds_toArray, List.set_cons_zero, List.set_cons_succ]
            refine wpAnyH_take (oi := ⟨some 53, _, _, _, _, _⟩) (i := 1) (v := ?vab1) rfl (by kernel_rfl) (by kernel_rfl) (by kernel_rfl) (fun _ _ _ h => h) (Or.inl ⟨by rfl, ?hyab1⟩) (by exact hS) ?reab1
            case hyab1 => (intro ww hSw; (try dsimp only at hSw); go_simp; first | done | with_reducible rfl)
            simp only [Act.put, List.setIfInBounds_toArray, List.set_cons_zero, List.set_cons_succ]
            refine wpAnyH_take (oi := ⟨some 54, _, _, _, _, _⟩) (i := 2) (v := ?vab2) rfl (by kernel_rfl) (by kernel_rfl) (by kernel_rfl) (fun _ _ _ h => h) (Or.inl ⟨by rfl, ?hyab2⟩) (by exact hS) ?reab2
            case hyab2 => (intro ww hSw; (try dsimp only at hSw); go_simp; first | done | with_reducible rfl)
            simp only [Act.put, List.setIfInBounds_toArray, List.set_cons_zero, List.set_cons_succ]
            refine wpAnyH_take (oi := ⟨some 56, _, _, _, _, _⟩) (i := 4) (v := ?vab4) rfl (by kernel_rfl) (by kernel_rfl) (by kernel_rfl) (fun _ _ _ h => h) (Or.inl ⟨by rfl, ?hyab4⟩) (by exact hS) ?reab4
            case hyab4 => (intro ww hSw; (try dsimp only at hSw); go_simp; first | done | with_reducible rfl)
            simp only [Act.put, List.setIfInBounds_toArray, List.set_cons_zero, List.set_cons_succ]
            refine wpAnyH_take (oi := ⟨some 57, _, _, _, _, _⟩) (i := 5) (v := ?vab5) rfl (by kernel_rfl) (by kernel_rfl) (by kernel_rfl) (fun _ _ _ h => h) (Or.inl ⟨by rfl, ?hyab5⟩) (by exact hS) ?reab5
            case hyab5 => (intro ww hSw; (try dsimp only at hSw); go_simp; first | done | with_reducible rfl)
            simp only [Act.put, List.setIfInBounds_toArray, List.set_cons_zero, List.set_cons_succ]
            refine wpAnyH_take (oi := ⟨some 58, _, _, _, _, _⟩) (i := 6) (v := ?vab6) rfl (by kernel_rfl) (by kernel_rfl) (by kernel_rfl) (fun _ _ _ h => h) (Or.inl ⟨by rfl, ?hyab6⟩) (by exact hS) ?reab6
            case hyab6 => (intro ww hSw; (try dsimp only at hSw); go_simp; first | done | with_reducible rfl)
            simp only [Act.put, List.setIfInBounds_toArray, List.set_cons_zero, List.set_cons_succ]
            refine wpAnyH_take (oi := ⟨some 59, _, _, _, _, _⟩) (i := 7) (v := ?vab7) rfl (by kernel_rfl) (by kernel_rfl) (by kernel_rfl) (fun _ _ _ h => h) (Or.inl ⟨by rfl, ?hyab7⟩) (by exact hS) ?reab7
            case hyab7 => (intro ww hSw; (try dsimp only at hSw); go_simp; first | done | with_reducible rfl)
            simp only [Act.put, List.setIfInBounds_toArray, List.set_cons_zero, List.set_cons_succ]
            refine wpAnyH_ready (rs := [3]) (by kernel_rfl) (by simp) ?_
            refine AllReadyH.cons rfl (fun K hK => ?_) AllReadyH.nil
            refine step_append_lies _ (by rfl) (.const (.slice none 0 0)) (.tmp 54) 37 rfl w7.heap.size 30 i0 (.agg #[.int .i64 0, .int .i64 0, .int .i64 0, .int .i64 0, .int .i64 0, .bool false, .bool false, .int .i64 0, .string ⟨#[]⟩]) 9 72 Try.underlying37 HI.out HZ0.out HZ1.out HZ2.out rfl (by decide) (.slice none 0 0) 0 [] rfl ⟨rfl, .inl ⟨rfl, rfl⟩⟩ ⟨g1, 0, none⟩ kk dl (pkC K1) rfl hl1 (HN1.out _ HR.drew) hko (by omega) (by unfold maxLen; omega) (by omega) (Nat.le_refl _) _ rfl ?_
            intro ga capa wa howna hgrowa hata hlta
            have HBa := Lib.hid (HR.drew.grown hgrowa (Nat.le_refl _) (fun k e => by simp [Value.ownBlock] at e))
            have hga : w7.heap.size ≤ ga := by
              rcases hata with r | r
              · simp [Value.ownBlock] at r
              · exact Nat.le_of_eq r.symm
            have HOa := Lib.hid howna
            refine hK.out _ _ HBa.out (fun h1 => ?_)
            clear howna hgrowa hata
            simp only [Act.put, List.setIfInBounds_toArray]
            refine wpAnyH_ready (rs := [8]) (by kernel_rfl) (by simp) ?_
            refine AllReadyH.cons rfl (fun K3 hK3 => ?_) AllReadyH.nil
            have hcapa : kk ≤ capa := by
              rcases HOa.out.2 with ⟨e, -⟩ | ⟨g', cap', cur, e, -, -, h, -⟩
              · cases e
              · injection e with e1 e2 e3
                omega
            refine step_append_none _ (by rfl) (.tmp 55) (.tmp 59) 37 rfl 30 i0 Try.underlying37 HI.out (some ⟨ga, 0, none⟩) _ (0 + kk) capa (M - (kk + 1)) (dl - (kk + 1)) rfl rfl (by omega) HZ00.out ?_
            refine hK3.out _ _ HBa.out (fun h1 => ?_)
            have hlen : (K1 ++ K2).length = kk := by have q1 := HZ00.out; rw [List.length_append, hk1, hk2] <;> omega
            have HOb : Hid (PRow wa w7.heap.size (some ⟨ga, 0, none⟩) capa (K1 ++ K2)) := Lib.hid (by
              unfold PRow
              rw [hlen, show K2 = [] from List.eq_nil_of_length_eq_zero (by have := HZ00.out; omega), List.append_nil]
              simpa using HOa.out)
            have HEL := Lib.hid hlen
            clear hlen
            simp only [Act.put]
            refine wpAnyH_take (oi := ⟨some 5, _, _, _, _, _⟩) (i := 9) (v := ?vbb9) rfl (by kernel_rfl) (by kernel_rfl) (by kernel_rfl) (fun _ _ _ h => h) (Or.inl ⟨by rfl, ?hybb9⟩) (by exact h1) ?rebb9
            case hybb9 => (intro ww hSw; (try dsimp only at hSw); go_simp; first | done | with_reducible rfl)
            simp only [Act.put]
            refine wpAnyH_done (by kernel_rfl) ?_ _
            go_wp2_with fail
            refine ⟨⟨k + 1, K1 ++ K2, O1 ++ [p], (some ⟨ga, 0, none⟩), capa, some ⟨g, 0, none⟩, cap, ?_, by go_num, by rw [HEL.out], by simp, ?_, HT3.out.fresh HBa.out HOb.out⟩, by simp [Go.RowKit.intOf]; omega⟩
            · rw [HEL.out]; have q1 := HZ00.out; omega
            · have h := HK.out.out HP.out (O' := O1 ++ [p]) (by rcases HO.out with q | q; (exact .inl (by rw [q])); (exact .inr (by rw [q])))
              rw [hK1, hK2] at h
              exact h
          · have hle1 : (kk : Int) + 1 ≤ (M : Int) := by omega
            have hle0 : (0 : Int) ≤ (kk : Int) + 1 := by omega
            have hwk : IntKind.i64.wrap ((kk : Int) + 1) = (kk : Int) + 1 := IntWalk.i64_in _ (by omega)
            have hto : ((kk : Int) + 1).toNat = kk + 1 := by omega
            have hne1 : ¬ (dl = kk + 1) := by omega
            have HR := Below.refl w7.heap.size w7
            refine wp_region_held_drew (S := fun w' => Below w7.heap.size w7 w') (by kernel_rfl) HR.drew ?_
            intro hS
            refine wpAnyH_take (oi := ⟨some 52, _, _, _, _, _⟩) (i := 0) (v := ?vaa0) rfl (by kernel_rfl) (by kernel_rfl) (by kernel_rfl) (fun _ _ _ h => h) (Or.inl ⟨by rfl, ?hyaa0⟩) (by exact hS) ?reaa0
            case hyaa0 => (intro ww hSw; (try dsimp only at hSw); go_simp; first | done | with_reducible rfl)
            simp only [Act.put, List.setIfInBounds_toArray, List.set_cons_zero, List.set_cons_succ]
            refine wpAnyH_take (oi := ⟨some 53, _, _, _, _, _⟩) (i := 1) (v := ?vaa1) rfl (by kernel_rfl) (by kernel_rfl) (by kernel_rfl) (fun _ _ _ h => h) (Or.inl ⟨by rfl, ?hyaa1⟩) (by exact hS) ?reaa1
            case hyaa1 => (intro ww hSw; (try dsimp only at hSw); go_simp; first | done | with_reducible rfl)
            simp only [Act.put, List.setIfInBounds_toArray, List.set_cons_zero, List.set_cons_succ]
            refine wpAnyH_take (oi := ⟨some 54, _, _, _, _, _⟩) (i := 2) (v := ?vaa2) rfl (by kernel_rfl) (by kernel_rfl) (by kernel_rfl) (fun _ _ _ h => h) (Or.inl ⟨by rfl, ?hyaa2⟩) (by exact hS) ?reaa2
            case hyaa2 => (intro ww hSw; (try dsimp only at hSw); go_simp; first | done | with_reducible rfl)
            simp only [Act.put, List.setIfInBounds_toArray, List.set_cons_zero, List.set_cons_succ]
            refine wpAnyH_take (oi := ⟨some 56, _, _, _, _, _⟩) (i := 4) (v := ?vaa4) rfl (by kernel_rfl) (by kernel_rfl) (by kernel_rfl) (fun _ _ _ h => h) (Or.inl ⟨by rfl, ?hyaa4⟩) (by exact hS) ?reaa4
            case hyaa4 => (intro ww hSw; (try dsimp only at hSw); go_simp; first | done | with_reducible rfl)
            simp only [Act.put, List.setIfInBounds_toArray, List.set_cons_zero, List.set_cons_succ]
            refine wpAnyH_take (oi := ⟨some 57, _, _, _, _, _⟩) (i := 5) (v := ?vaa5) rfl (by kernel_rfl) (by kernel_rfl) (by kernel_rfl) (fun _ _ _ h => h) (Or.inl ⟨by rfl, ?hyaa5⟩) (by exact hS) ?reaa5
            case hyaa5 => (intro ww hSw; (try dsimp only at hSw); go_simp; first | done | with_reducible rfl)
            simp only [Act.put, List.setIfInBounds_toArray, List.set_cons_zero, List.set_cons_succ]
            refine wpAnyH_take (oi := ⟨some 58, _, _, _, _, _⟩) (i := 6) (v := ?vaa6) rfl (by kernel_rfl) (by kernel_rfl) (by kernel_rfl) (fun _ _ _ h => h) (Or.inl ⟨by rfl, ?hyaa6⟩) (by exact hS) ?reaa6
            case hyaa6 => (intro ww hSw; (try dsimp only at hSw); go_simp; first | done | with_reducible rfl)
            simp only [Act.put, List.setIfInBounds_toArray, List.set_cons_zero, List.set_cons_succ]
            refine wpAnyH_take (oi := ⟨some 59, _, _, _, _, _⟩) (i := 7) (v := ?vaa7) rfl (by kernel_rfl) (by kernel_rfl) (by kernel_rfl) (fun _ _ _ h => h) (Or.inl ⟨by rfl, ?hyaa7⟩) (by exact hS) ?reaa7
            case hyaa7 => (intro ww hSw; (try dsimp only at hSw); go_simp; first | done | with_reducible rfl)
            simp only [Act.put, List.setIfInBounds_toArray, List.set_cons_zero, List.set_cons_succ]
            refine wpAnyH_ready (rs := [3]) (by kernel_rfl) (by simp) ?_
            refine AllReadyH.cons rfl (fun K hK => ?_) AllReadyH.nil
            refine step_append_lies _ (by rfl) (.const (.slice none 0 0)) (.tmp 54) 37 rfl w7.heap.size 30 i0 (.agg #[.int .i64 0, .int .i64 0, .int .i64 0, .int .i64 0, .int .i64 0, .bool false, .bool false, .int .i64 0, .string ⟨#[]⟩]) 9 72 Try.underlying37 HI.out HZ0.out HZ1.out HZ2.out rfl (by decide) (.slice none 0 0) 0 [] rfl ⟨rfl, .inl ⟨rfl, rfl⟩⟩ ⟨g1, 0, none⟩ kk dl (pkC K1) rfl hl1 (HN1.out _ HR.drew) hko (by omega) (by unfold maxLen; omega) (by omega) (Nat.le_refl _) _ rfl ?_
            intro ga capa wa howna hgrowa hata hlta
            have HBa := Lib.hid (HR.drew.grown hgrowa (Nat.le_refl _) (fun k e => by simp [Value.ownBlock] at e))
            have hga : w7.heap.size ≤ ga := by
              rcases hata with r | r
              · simp [Value.ownBlock] at r
              · exact Nat.le_of_eq r.symm
            have HOa := Lib.hid howna
            refine hK.out _ _ HBa.out (fun h1 => ?_)
            clear howna hgrowa hata
            simp only [Act.put, List.setIfInBounds_toArray]
            refine wpAnyH_ready (rs := [8]) (by kernel_rfl) (by simp) ?_
            refine AllReadyH.cons rfl (fun K3 hK3 => ?_) AllReadyH.nil
            refine step_append_lies _ (by rfl) (.tmp 55) (.tmp 59) 37 rfl w7.heap.size 30 i0 (.agg #[.int .i64 0, .int .i64 0, .int .i64 0, .int .i64 0, .int .i64 0, .bool false, .bool false, .int .i64 0, .string ⟨#[]⟩]) 9 72 Try.underlying37 HI.out HZ0.out HZ1.out HZ2.out rfl (by decide) (.slice (some ⟨ga, 0, none⟩) (0 + kk) capa) (0 + kk) ([] ++ pkC K1) rfl HOa.out ⟨g1, (kk + 1) * 9, none⟩ (M - (kk + 1)) (dl - (kk + 1)) (pkC K2) rfl hl2 (HN2.out _ HBa.out) hko2 (by omega) (by unfold maxLen; omega) (by omega) (HBa.out.size) _ rfl ?_
            intro gb capb wb hownb hgrowb hatb hltb
            have HBb := Lib.hid (HBa.out.grown hgrowb (HBa.out.size) (fun k e => by simp [Value.ownBlock] at e; omega))
            refine hK3.out _ _ HBb.out (fun h1 => ?_)
            have HOb : Hid (PRow wb w7.heap.size (some ⟨gb, 0, none⟩) capb (K1 ++ K2)) := Lib.hid (by
              have e1 : (K1 ++ K2).length = (0 + kk) + (M - (kk + 1)) := by rw [List.length_append, hk1, hk2] <;> omega
              have e2 : pkC (K1 ++ K2) = ([] ++ pkC K1) ++ pkC K2 := by simp [pkC, List.flatMap_append]
              unfold PRow
              rw [e1, e2]
              exact hownb)
            have HEL : Hid ((K1 ++ K2).length = kk + (M - (kk + 1))) := Lib.hid (by rw [List.length_append, hk1, hk2] <;> omega)
            clear hownb hgrowb hatb
            simp only [Act.put]
            refine wpAnyH_take (oi := ⟨some 5, _, _, _, _, _⟩) (i := 9) (v := ?vba9) rfl (by kernel_rfl) (by kernel_rfl) (by kernel_rfl) (fun _ _ _ h => h) (Or.inl ⟨by rfl, ?hyba9⟩) (by exact h1) ?reba9
            case hyba9 => (intro ww hSw; (try dsimp only at hSw); go_simp; first | done | with_reducible rfl)
            simp only [Act.put]
            refine wpAnyH_done (by kernel_rfl) ?_ _
            go_wp2_with fail
            refine ⟨⟨k + 1, K1 ++ K2, O1 ++ [p], (some ⟨gb, 0, none⟩), capb, some ⟨g, 0, none⟩, cap, ?_, by go_num, by rw [HEL.out], by simp, ?_, HT3.out.fresh HBb.out HOb.out⟩, by simp [Go.RowKit.intOf]; omega⟩
            · rw [HEL.out]; omega
            · have h := HK.out.out HP.out (O' := O1 ++ [p]) (by rcases HO.out with q | q; (exact .inl (by rw [q])); (exact .inr (by rw [q])))
              rw [hK1, hK2] at h
              exact h
end Go.Proofs.Ytmeldgnjgogacaa.Re
