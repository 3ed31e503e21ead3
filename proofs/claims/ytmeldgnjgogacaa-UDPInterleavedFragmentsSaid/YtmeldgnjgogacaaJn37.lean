/-
  The walk of the law UDPInterleavedFragments.
-/
import Derived.Test.YtmeldgnjgogacaaJnBase
namespace Go.Proofs.Ytmeldgnjgogacaa.Re
set_option maxRecDepth 100000
open Go.RowKit Go.Proofs.Ytmeldgnjgogacaa.Wire
open Go.Proofs.Ytmeldgnjgogacaa.Ip (Pk pieceAt count frags count_lt frags_length)

/-- the table beside the two packets and the two lists, all made since w -/
structure J37 (w : World) (T pb qb : Nat) (p q : Pk) (D E : Option Addr) (d e : Nat) (l m : List Pk) (A : List (Ky × Hf)) (W : World) : Prop where
  one : OneT w T A (fun k => (k = pb ∨ k = qb) ∨ BK D k ∨ BK E k) W
  pk : W.heap[pb]? = some (.cells #[.int .i64 p.f, .int .i64 p.t, .int .i64 p.pr, .int .i64 p.ttl, .int .i64 p.id, .bool p.df, .bool p.mf, .int .i64 p.off, .string p.s] 30)
  qk : W.heap[qb]? = some (.cells #[.int .i64 q.f, .int .i64 q.t, .int .i64 q.pr, .int .i64 q.ttl, .int .i64 q.id, .bool q.df, .bool q.mf, .int .i64 q.off, .string q.s] 30)
  row : PRow W w.heap.size D d l
  row2 : PRow W w.heap.size E e m
section
variable {w W W' : World} {T pb qb : Nat} {p q : Pk} {D E : Option Addr} {d e : Nat} {l m : List Pk} {A A' : List (Ky × Hf)}
theorem J37.below (h : J37 w T pb qb p q D E d e l m A W) (hb : Below W.heap.size W W') : J37 w T pb qb p q D E d e l m A W' := ⟨h.one.below hb, bblock hb h.pk, bblock hb h.qk, h.row.below hb, h.row2.below hb⟩
theorem J37.put (h : J37 w T pb qb p q D E d e l m A W) (now : Int) (P R : Pk) (ok : Bool) (err : Int) (he : putA A now P = (A', R, ok, err)) (hs : P.s.size ≤ 9223372036854775807) (hL : A.length < 8) (hnow : In64 now) :
    Calls Try.prog 16 #[.pointer (some ⟨T, 0, none⟩), .int .i64 now, .agg #[.int .i64 P.f, .int .i64 P.t, .int .i64 P.pr, .int .i64 P.ttl, .int .i64 P.id, .bool P.df, .bool P.mf, .int .i64 P.off, .string P.s]] W fun x w' => x = PutRes R ok err ∧ J37 w T pb qb p q D E d e l m A' w' := by
  refine (h.one.put now P A' R ok err he hs (.inl hL) (by omega) hnow).mono ?_
  rintro x w' ⟨hx, ho, -, hk⟩
  have hp := blk_lt h.pk; have hq := blk_lt h.qk
  exact ⟨hx, ⟨ho.more (fun k hk' => .inl ⟨hk', by rcases hk' with (r | r) | r | r; (exact r ▸ hp); (exact r ▸ hq); (exact (h.row.bk r).2); (exact (h.row2.bk r).2)⟩), (hk pb (.inl (.inl rfl)) hp).trans h.pk, (hk qb (.inl (.inr rfl)) hq).trans h.qk, h.row.keptK (fun k hk' hl => hk k (.inr (.inl hk')) hl), h.row2.keptK (fun k hk' hl => hk k (.inr (.inr hk')) hl)⟩⟩
end
theorem prow_cap {W : World} {lo : Nat} {A : Option Addr} {c : Nat} {l : List Pk} (h : PRow W lo A c l) : l.length ≤ c := by
  rcases h.2 with ⟨e, h0⟩ | ⟨g, cap, cur, e, h1, h2, h3, h4, h5, h6⟩
  · omega
  · injection e with e1 e2 e3; omega
/-- at most two datagrams are there -/
theorem two_keys {A : List (Ky × Hf)} {a b : Ky} (hn : NK A) (hk : ∀ x ∈ A, x.1 = a ∨ x.1 = b) : A.length ≤ 2 := by
  have h := nodup_sub (A.map (fun x : Ky × Hf => x.1)) [a, b] (show (A.map (·.1)).Nodup from hn) (fun x hx => by
    obtain ⟨y, hy, rfl⟩ := List.mem_map.1 hx
    rcases hk y hy with q | q <;> simp [q])
  simpa using h
/-- both datagrams, when i fragments of the one and j of the other have come -/
structure JJ (p q : Pk) (n m : Nat) (l r : List Pk) (i j : Nat) (o1 o2 : Bool) (A : List (Ky × Hf)) : Prop where
  nk : NK A
  keys : ∀ x ∈ A, x.1 = keyOf p ∨ x.1 = keyOf q
  a : JP p n l i o1 A
  b : JP q m r j o2 A
theorem JJ.put1 {p q : Pk} {n m : Nat} {l r : List Pk} {i j : Nat} {o1 o2 : Bool} {A : List (Ky × Hf)} (h : JJ p q n m l r i j o1 o2 A) (hw : Whole p n) (hne : keyOf q ≠ keyOf p) {P : Pk} (hP : l[i]? = some P) (hl : ∀ P ∈ l, P ∈ frags p n (count p n)) (now : Int) :
    ∃ A' R ok, putA A now P = (A', R, ok, 0) ∧ JJ p q n m l r (i + 1) j (o1 || ok) o2 A' ∧ (ok = true → R = p) ∧ P.s.size ≤ 4000 := by
  obtain ⟨k, hk, hPk⟩ := frags_mem (hl P (List.mem_of_getElem? hP))
  obtain ⟨A', R, ok, h1, h2, h3, h4, h5, h6⟩ := h.a.put hw h.nk hP hk hPk now
  refine ⟨A', R, ok, h1, ⟨h2, fun x hx => (h6 x hx).elim (h.keys x) .inl, h3, h.b.congr (h5 _ hne)⟩, fun e => (h4 e).1, ?_⟩
  rw [hPk, piece_sz]
  have := hw.cut.le
  omega
theorem JJ.put2 {p q : Pk} {n m : Nat} {l r : List Pk} {i j : Nat} {o1 o2 : Bool} {A : List (Ky × Hf)} (h : JJ p q n m l r i j o1 o2 A) (hw : Whole q m) (hne : keyOf p ≠ keyOf q) {P : Pk} (hP : r[j]? = some P) (hl : ∀ P ∈ r, P ∈ frags q m (count q m)) (now : Int) :
    ∃ A' R ok, putA A now P = (A', R, ok, 0) ∧ JJ p q n m l r i (j + 1) o1 (o2 || ok) A' ∧ (ok = true → R = q) ∧ P.s.size ≤ 4000 := by
  obtain ⟨k, hk, hPk⟩ := frags_mem (hl P (List.mem_of_getElem? hP))
  obtain ⟨A', R, ok, h1, h2, h3, h4, h5, h6⟩ := h.b.put hw h.nk hP hk hPk now
  refine ⟨A', R, ok, h1, ⟨h2, fun x hx => (h6 x hx).elim (h.keys x) .inr, h.a.congr (h5 _ hne), h3⟩, fun e => (h4 e).1, ?_⟩
  rw [hPk, piece_sz]
  have := hw.cut.le
  omega
def PartsC (W0 : World → Prop) (xv : Value) (id size : Int) (p : Pk) (N : Nat) : Prop := ∀ W, W0 W → Calls Try.prog 28 #[xv, .int .i64 id, .int .i64 size] W fun e w' => (∃ B c, e = .returned (.tuple #[.slice B (jL p N).length c, .agg #[.int .i64 p.f, .int .i64 p.t, .int .i64 p.pr, .int .i64 p.ttl, .int .i64 p.id, .bool p.df, .bool p.mf, .int .i64 p.off, .string p.s]]) ∧ PRow w' W.heap.size B c (jL p N)) ∧ Below W.heap.size W w'
set_option maxHeartbeats 8000000 in
theorem mix37_aux (x0 x1 x2 x3 x4 : Int) (xs : ByteArray) (y0 y1 y2 y3 y4 : Int) (ys : ByteArray) (id size pid : Int) (A : Option Addr) (nt ct : Nat) (tl : List Int) (M : Option Addr) (nm cm : Nat) (ml : List Bool) (p q : Pk) (N N2 : Nat) (w : World) (hw : Whole p N) (hw2 : Whole q N2) (hid : q.id ≠ p.id) (hA : ArgI w A nt tl) (hM : ArgO w M nm ml)
    (hn : 2 ≤ (jL p N).length ∧ (jL p N).length ≤ 1000) (hn2 : 2 ≤ (jL q N2).length ∧ (jL q N2).length ≤ 1000) (hpid : 0 ≤ pid ∧ pid < 65536)
    (hI : ∀ W, Calls Try.prog 31 #[.int .i64 id, .int .i64 65536] W fun e w' => e = .returned (.int .i64 pid) ∧ W = w')
    (hP : PartsC (fun _ => True) (.agg #[.int .i64 x0, .int .i64 x1, .int .i64 x2, .int .i64 x3, .int .i64 x4, .string xs]) id size p N)
    (hQ : PartsC (fun _ => True) (.agg #[.int .i64 x0, .int .i64 x1, .int .i64 y2, .int .i64 y3, .int .i64 y4, .string ys]) (pid + 1) size q N2) :
    Calls Try.prog 11 #[.agg #[.int .i64 x0, .int .i64 x1, .int .i64 x2, .int .i64 x3, .int .i64 x4, .string xs], .agg #[.int .i64 y0, .int .i64 y1, .int .i64 y2, .int .i64 y3, .int .i64 y4, .string ys], .int .i64 id, .int .i64 size, .slice A nt ct, .slice M nm cm] w fun x w' => x = .returned (.bool true) ∧ Below w.heap.size w w' := by
  unfold PartsC at hP hQ
  have HA := Lib.hid hA; have HM := Lib.hid hM; have HW := Lib.hid hw; have HW2 := Lib.hid hw2; have HP := Lib.hid (fun W => hP W trivial); have HQ := Lib.hid (fun W => hQ W trivial); have HI := Lib.hid hI; have HID := Lib.hid hid
  obtain ⟨l, hl⟩ : ∃ l, jL p N = l := ⟨_, rfl⟩
  obtain ⟨r, hr⟩ : ∃ r, jL q N2 = r := ⟨_, rfl⟩
  rw [hl] at hn HP; rw [hr] at hn2 HQ
  have HL := Lib.hid hl; have HRR := Lib.hid hr
  have HX := Lib.hid (block_alloc (alloc_new w (.cells #[.int .i64 x0, .int .i64 x1, .int .i64 x2, .int .i64 x3, .int .i64 x4, .string xs] 58)) (.cells #[.int .i64 y0, .int .i64 y1, .int .i64 y2, .int .i64 y3, .int .i64 y4, .string ys] 58))
  have HY := Lib.hid (alloc_new' (w.alloc (.cells #[.int .i64 x0, .int .i64 x1, .int .i64 x2, .int .i64 x3, .int .i64 x4, .string xs] 58)) (.cells #[.int .i64 y0, .int .i64 y1, .int .i64 y2, .int .i64 y3, .int .i64 y4, .string ys] 58) (w.heap.size + 1) (by simp))
  have HB := Lib.hid (below_alloc (o := .cells #[.int .i64 y0, .int .i64 y1, .int .i64 y2, .int .i64 y3, .int .i64 y4, .string ys] 58) (below_alloc (o := .cells #[.int .i64 x0, .int .i64 x1, .int .i64 x2, .int .i64 x3, .int .i64 x4, .string xs] 58) (Below.refl w.heap.size w)))
  clear hA hM hw hw2 hP hQ hI hl hr hid
  go_enter Try.func11, Try.ntmps11
  go_upto_region 1 with fail
  generalize (w.alloc (.cells #[.int .i64 x0, .int .i64 x1, .int .i64 x2, .int .i64 x3, .int .i64 x4, .string xs] 58)).alloc (.cells #[.int .i64 y0, .int .i64 y1, .int .i64 y2, .int .i64 y3, .int .i64 y4, .string ys] 58) = w0 at *
  go_wp2_with fail
  refine (Udp.sane_any _).mono ?_
  rintro x w1 ⟨rfl, hb1⟩
  have HX1 := Lib.hid (bblock hb1 HX.out); have HY1 := Lib.hid (bblock hb1 HY.out); have HB1 := Lib.hid (below_call HB.out hb1)
  clear hb1 HX HY HB
  have qx0 := (cell_of_block (k := 0) HX1.out rfl).1; have qx1 := (cell_of_block (k := 1) HX1.out rfl).1
  obtain ⟨qy0, zy0⟩ := (cell_of_block (k := 0) HY1.out rfl); obtain ⟨qy1, zy1⟩ := (cell_of_block (k := 1) HY1.out rfl)
  go_upto_region 4 with fail
  have HX2 := Lib.hid (block_set_other (a := ⟨w.heap.size + 1, 1, none⟩) (u := .int .i64 x1) (block_set_other (a := ⟨w.heap.size + 1, 0, none⟩) (u := .int .i64 x0) HX1.out (by show w.heap.size + 1 ≠ w.heap.size; omega)) (by show w.heap.size + 1 ≠ w.heap.size; omega))
  have HY2 := Lib.hid (cells_eq (b := #[.int .i64 x0, .int .i64 x1, .int .i64 y2, .int .i64 y3, .int .i64 y4, .string ys]) (block_setCell (k := 1) (v := .int .i64 x1) (block_setCell (k := 0) (v := .int .i64 x0) HY1.out)) (by simp))
  have HB2 := Lib.hid ((HB1.out.setCell (p := ⟨w.heap.size + 1, 0, none⟩) (by show w.heap.size ≤ w.heap.size + 1; omega) (.int .i64 x0)).setCell (p := ⟨w.heap.size + 1, 1, none⟩) (by show w.heap.size ≤ w.heap.size + 1; omega) (.int .i64 x1))
  clear qx0 qx1 qy0 zy0 qy1 zy1 HX1 HY1 HB1
  generalize (World.setCell (World.setCell w1 ⟨w.heap.size + 1, 0, none⟩ (.int .i64 x0)) ⟨w.heap.size + 1, 1, none⟩ (.int .i64 x1)) = w2 at *
  have q0 := (cell_of_block (k := 0) HX2.out rfl).1; have q1 := (cell_of_block (k := 1) HX2.out rfl).1; have q2 := (cell_of_block (k := 2) HX2.out rfl).1; have q3 := (cell_of_block (k := 3) HX2.out rfl).1; have q4 := (cell_of_block (k := 4) HX2.out rfl).1; have q5 := (cell_of_block (k := 5) HX2.out rfl).1
  go_wp2_with fail
  refine (HP.out _).mono ?_
  rintro x w3 ⟨⟨B, c, rfl, hrow⟩, hb3⟩
  clear q0 q1 q2 q3 q4 q5
  have hz2 := HB2.out.size
  have HR4 := Lib.hid ((prow_mono hrow (show w.heap.size ≤ w2.heap.size from hz2)).below ((Below.refl w3.heap.size w3).alloc (Nat.le_refl _) (.cells #[.int .i64 p.f, .int .i64 p.t, .int .i64 p.pr, .int .i64 p.ttl, .int .i64 p.id, .bool p.df, .bool p.mf, .int .i64 p.off, .string p.s] 30)))
  have HB4 := Lib.hid (below_alloc (o := .cells #[.int .i64 p.f, .int .i64 p.t, .int .i64 p.pr, .int .i64 p.ttl, .int .i64 p.id, .bool p.df, .bool p.mf, .int .i64 p.off, .string p.s] 30) (below_call HB2.out hb3))
  have HY4 := Lib.hid (block_alloc (bblock hb3 HY2.out) (.cells #[.int .i64 p.f, .int .i64 p.t, .int .i64 p.pr, .int .i64 p.ttl, .int .i64 p.id, .bool p.df, .bool p.mf, .int .i64 p.off, .string p.s] 30))
  have HPK := Lib.hid (alloc_new w3 (.cells #[.int .i64 p.f, .int .i64 p.t, .int .i64 p.pr, .int .i64 p.ttl, .int .i64 p.id, .bool p.df, .bool p.mf, .int .i64 p.off, .string p.s] 30))
  obtain ⟨pb, hpb⟩ : ∃ pb, w3.heap.size = pb := ⟨_, rfl⟩
  rw [hpb] at HPK
  have hpw : w.heap.size ≤ pb := by have := hb3.size; omega
  have HPB := Lib.hid hpb
  clear hrow hb3 HB2 HX2 HY2 hpb
  go_upto_region 5 with fail
  rw [HPB.out]
  clear HPB
  generalize w3.alloc (.cells #[.int .i64 p.f, .int .i64 p.t, .int .i64 p.pr, .int .i64 p.ttl, .int .i64 p.id, .bool p.df, .bool p.mf, .int .i64 p.off, .string p.s] 30) = w4 at *
  go_cut [16, 17] (fun s16 s17 wx => ∃ qb E e, s16 = .slice E r.length e ∧ s17 = .pointer (some ⟨qb, 0, none⟩) ∧ wx.heap[qb]? = some (.cells #[.int .i64 q.f, .int .i64 q.t, .int .i64 q.pr, .int .i64 q.ttl, .int .i64 q.id, .bool q.df, .bool q.mf, .int .i64 q.off, .string q.s] 30) ∧ PRow wx w4.heap.size E e r ∧ Below w4.heap.size w4 wx ∧ w4.heap.size ≤ qb)
  case first =>
    have p0 : Hid (w4.cell? ⟨w.heap.size + 1, 0, none⟩ = some (.int .i64 x0)) := Lib.hid (cell_of_block (k := 0) HY4.out rfl).1; have p1 : Hid (w4.cell? ⟨w.heap.size + 1, 1, none⟩ = some (.int .i64 x1)) := Lib.hid (cell_of_block (k := 1) HY4.out rfl).1; have p2 : Hid (w4.cell? ⟨w.heap.size + 1, 2, none⟩ = some (.int .i64 y2)) := Lib.hid (cell_of_block (k := 2) HY4.out rfl).1; have p3 : Hid (w4.cell? ⟨w.heap.size + 1, 3, none⟩ = some (.int .i64 y3)) := Lib.hid (cell_of_block (k := 3) HY4.out rfl).1; have p4 : Hid (w4.cell? ⟨w.heap.size + 1, 4, none⟩ = some (.int .i64 y4)) := Lib.hid (cell_of_block (k := 4) HY4.out rfl).1; have p5 : Hid (w4.cell? ⟨w.heap.size + 1, 5, none⟩ = some (.string ys)) := Lib.hid (cell_of_block (k := 5) HY4.out rfl).1
    have KS : Hid (∀ W, Below w4.heap.size w4 W → (fun w' => w'.cell? ⟨w.heap.size + 1, 0, none⟩ = some (.int .i64 x0) ∧ w'.cell? ⟨w.heap.size + 1, 1, none⟩ = some (.int .i64 x1) ∧ w'.cell? ⟨w.heap.size + 1, 2, none⟩ = some (.int .i64 y2) ∧ w'.cell? ⟨w.heap.size + 1, 3, none⟩ = some (.int .i64 y3) ∧ w'.cell? ⟨w.heap.size + 1, 4, none⟩ = some (.int .i64 y4) ∧ w'.cell? ⟨w.heap.size + 1, 5, none⟩ = some (.string ys) ∧ Below w4.heap.size w4 w') W) := Lib.hid (fun W h => ⟨bcell h p0.out, bcell h p1.out, bcell h p2.out, bcell h p3.out, bcell h p4.out, bcell h p5.out, h⟩)
    have HR := Lib.hid (Below.refl w4.heap.size w4).drew
    have HRA : Hid (∀ o, Below w4.heap.size w4 ((w4.alloc o).drew)) := Lib.hid (fun o => (below_alloc (Below.refl _ _)).drew)
    have hwp : IntKind.i64.wrap (pid + 1) = pid + 1 := IntWalk.i64_in _ (by omega)
    go_region_held3 (fun w' => w'.cell? ⟨w.heap.size + 1, 0, none⟩ = some (.int .i64 x0) ∧ w'.cell? ⟨w.heap.size + 1, 1, none⟩ = some (.int .i64 x1) ∧ w'.cell? ⟨w.heap.size + 1, 2, none⟩ = some (.int .i64 y2) ∧ w'.cell? ⟨w.heap.size + 1, 3, none⟩ = some (.int .i64 y3) ∧ w'.cell? ⟨w.heap.size + 1, 4, none⟩ = some (.int .i64 y4) ∧ w'.cell? ⟨w.heap.size + 1, 5, none⟩ = some (.string ys) ∧ Below w4.heap.size w4 w') ((first | with_reducible exact KS.out _ hRb.out | with_reducible exact KS.out _ (below_alloc hRb.out) | with_reducible exact KS.out _ HR.out | with_reducible exact KS.out _ (HRA.out _) | (have _t := hN; exact KS.out _ (stN_below (B := w4.heap.size) (Nat.le_refl _) [.int .i64 q.f, .int .i64 q.t, .int .i64 q.pr, .int .i64 q.ttl, .int .i64 q.id, .bool q.df, .bool q.mf, .int .i64 q.off, .string q.s] _ 0 hRb.out))))
      (first | (go_simp; go_at_call 31; with_reducible refine (HI.out _).mono ?_; rintro e v ⟨rfl, rfl⟩) | (go_simp; go_at_call 28; with_reducible refine (HQ.out _).mono ?_; rintro e v ⟨⟨E, e, rfl, hrow⟩, hb⟩; have HW5 := Lib.hid hrow; clear hrow; first | (have hRb := Lib.hid (below_call HR.out hb)) | (have hRb := Lib.hid (below_call (HRA.out _) hb); have hN := Lib.hid (bblock hb (drew_heap (alloc_new w4 (.cells #[.int .i64 0, .int .i64 0, .int .i64 0, .int .i64 0, .int .i64 0, .bool false, .bool false, .int .i64 0, .string ⟨#[]⟩] 30)))); obtain ⟨⟨n0, n1, n2, n3, n4, n5, n6, n7, n8⟩, nz0, nz1, nz2, nz3, nz4, nz5, nz6, nz7, nz8⟩ := cells9 hN.out)))
    all_goals
      go_wp2_with fail
      go_meet
      first
        | (have _t := hN; have hlo : w4.heap.size + 1 = (w4.alloc (.cells #[.int .i64 0, .int .i64 0, .int .i64 0, .int .i64 0, .int .i64 0, .bool false, .bool false, .int .i64 0, .string ⟨#[]⟩] 30)).drew.heap.size := by simp [World.drew]
           exact ⟨w4.heap.size, E, e, rfl, rfl, stN_all [.int .i64 q.f, .int .i64 q.t, .int .i64 q.pr, .int .i64 q.ttl, .int .i64 q.id, .bool q.df, .bool q.mf, .int .i64 q.off, .string q.s] hN.out rfl, (prow_mono HW5.out (show w4.heap.size ≤ _ by rw [← hlo]; omega)).kept (fun a e => (stN_only [.int .i64 q.f, .int .i64 q.t, .int .i64 q.pr, .int .i64 q.ttl, .int .i64 q.id, .bool q.df, .bool q.mf, .int .i64 q.off, .string q.s] 0 (World.grownBy.refl _ (some w4.heap.size))).block _ (HW5.out.bk ⟨a, e, rfl⟩).2 (fun q => by have h1 := (HW5.out.bk ⟨a, e, rfl⟩).1; rw [← hlo] at h1; injection q with q; omega)), stN_below (B := w4.heap.size) (Nat.le_refl _) [.int .i64 q.f, .int .i64 q.t, .int .i64 q.pr, .int .i64 q.ttl, .int .i64 q.id, .bool q.df, .bool q.mf, .int .i64 q.off, .string q.s] _ 0 hRb.out, Nat.le_refl _⟩)
        | exact ⟨_, E, e, rfl, rfl, alloc_new _ _, (PRow.below HW5.out ((Below.refl _ _).alloc (Nat.le_refl _) _)), below_alloc hRb.out, hRb.out.size⟩
  case rest =>
    obtain ⟨qb, E, e, rfl, rfl, hQK, hrow2, hb5, hqb⟩ := hcut
    obtain ⟨w5, rfl⟩ : ∃ wo : World, wo = wc := ⟨_, rfl⟩
    have HB5 := Lib.hid (below_call HB4.out hb5)
    have HR5 := Lib.hid (HR4.out.below hb5)
    have HS5 := Lib.hid (prow_mono hrow2 (show w.heap.size ≤ w4.heap.size from HB4.out.size))
    have HPK5 := Lib.hid (bblock hb5 HPK.out); have HQK5 := Lib.hid hQK
    clear hQK hrow2 hb5 HR4 HB4 HPK HY4
    have d2 : decide ((l.length : Int) < 2) = false := decide_eq_false (by omega)
    have d3 : decide ((r.length : Int) < 2) = false := decide_eq_false (by omega)
    go_wp2_with fail
    refine (turned_any l w.heap.size B c A nt ct tl w5 HR5.out ⟨by omega, by omega⟩ (HA.out.below HB5.out)).mono ?_
    rintro x w6 ⟨al, D, d, rfl, hrow6, ha0, ha1, ha2, hb6⟩
    have HB6 := Lib.hid (below_call HB5.out hb6)
    have HS6 := Lib.hid (HS5.out.below hb6)
    have HPK6 := Lib.hid (bblock hb6 HPK5.out); have HQK6 := Lib.hid (bblock hb6 HQK5.out)
    have HD6 := Lib.hid (prow_mono hrow6 (show w.heap.size ≤ w5.heap.size from HB5.out.size))
    have HA1 := Lib.hid ha1; have HA2 := Lib.hid ha2
    clear hrow6 hb6 HR5 HS5 HPK5 HQK5 HB5 ha1 ha2
    go_wp2_with fail
    refine (turned_any r w.heap.size E e A nt ct tl w6 HS6.out ⟨by omega, by omega⟩ (HA.out.below HB6.out)).mono ?_
    rintro x w7 ⟨bl, G, g, rfl, hrow7, hb0, hb1, hb2, hb7⟩
    have HB7 := Lib.hid (below_call HB6.out hb7)
    have HPK7 := Lib.hid (bblock hb7 HPK6.out); have HQK7 := Lib.hid (bblock hb7 HQK6.out)
    have HD7 := Lib.hid (HD6.out.below hb7)
    have HG7 := Lib.hid (prow_mono hrow7 (show w.heap.size ≤ w6.heap.size from HB6.out.size))
    have HB1 := Lib.hid hb1; have HB2 := Lib.hid hb2
    clear hrow7 hb7 HS6 HPK6 HQK6 HB6 HD6 hb1 hb2
    go_wp2_with fail
    refine (new_tt _).mono ?_
    intro x w8 hx
    obtain ⟨T, rfl, ho, hb8⟩ := OneT.ofNew HB7.out hx
    have hpl := blk_lt HPK7.out; have hql := blk_lt HQK7.out
    have HJ : Hid (J37 w T pb qb p q D G d g al bl [] w8) := Lib.hid ⟨ho.more (fun k hk => .inl (by rcases hk with (rr | rr) | rr | rr; (exact rr ▸ hpl); (exact rr ▸ hql); (exact (HD7.out.bk rr).2); (exact (HG7.out.bk rr).2))), bblock hb8 HPK7.out, bblock hb8 HQK7.out, HD7.out.below hb8, HG7.out.below hb8⟩
    have hapos : 0 < al.length := List.length_pos_of_mem (HA2.out _ (List.getElem_mem (show 0 < l.length by omega)))
    have hbpos : 0 < bl.length := List.length_pos_of_mem (HB2.out _ (List.getElem_mem (show 0 < r.length by omega)))
    obtain ⟨ga, rfl, -⟩ := HD7.out.addr hapos
    obtain ⟨gb, rfl, -⟩ := HG7.out.addr hbpos
    have hdc := prow_cap HD7.out
    have hgc := prow_cap HG7.out
    clear hx ho hb8 HPK7 HQK7 HD7 HG7 HB7 hpl hql hapos hbpos d2 d3
    have HK : Hid (keyOf q ≠ keyOf p) := Lib.hid (fun e => HID.out (by have := congrArg (fun k : Ky => k.i) e; exact this))
    have HK2 : Hid (keyOf p ≠ keyOf q) := Lib.hid (fun e => HK.out e.symm)
    have HA1' : Hid (∀ P ∈ al, P ∈ frags p N (count p N)) := Lib.hid (fun P hP => by have := HA1.out P hP; rw [← HL.out] at this; exact this)
    have HB1' : Hid (∀ P ∈ bl, P ∈ frags q N2 (count q N2)) := Lib.hid (fun P hP => by have := HB1.out P hP; rw [← HRR.out] at this; exact this)
    clear HA1 HB1
    go_wp2_with fail
    go_loopw [14, 16, 19, 20, 21] (fun sa sb s1 s2 si wr => ∃ (i j n1 n2 oa ob la lb ca cb t : Nat) (o1 o2 : Bool) (A' : List (Ky × Hf)), t = i + j ∧ al.length = i + la ∧ bl.length = j + lb ∧ d = i + ca ∧ g = j + cb ∧ (0 < la → oa = i * 9) ∧ (0 < lb → ob = j * 9) ∧ n1 ≤ i ∧ n2 ≤ j ∧ (o1 = true → 1 ≤ n1) ∧ (o2 = true → 1 ≤ n2) ∧ sa = .slice (some ⟨ga, oa, none⟩) la ca ∧ sb = .slice (some ⟨gb, ob, none⟩) lb cb ∧ s1 = .int .i64 (n1 : Int) ∧ s2 = .int .i64 (n2 : Int) ∧ si = .int .i64 (t : Int) ∧ JJ p q N N2 al bl i j o1 o2 A' ∧ J37 w T pb qb p q (some ⟨ga, 0, none⟩) (some ⟨gb, 0, none⟩) d g al bl A' wr) (fun _ _ _ _ i _ => al.length + bl.length - (Go.RowKit.intOf i).toNat)
    case atStart => exact ⟨0, 0, 0, 0, 0, 0, al.length, bl.length, d, g, 0, false, false, [], rfl, by omega, by omega, by omega, by omega, (fun _ => by omega), (fun _ => by omega), Nat.le_refl _, Nat.le_refl _, (fun e => by cases e), (fun e => by cases e), rfl, rfl, rfl, rfl, rfl, ⟨List.nodup_nil, (fun x hx => by cases hx), JP.start HW.out.cut al, JP.start HW2.out.cut bl⟩, HJ.out⟩
    case round =>
      clear HJ
      obtain ⟨i, j, n1, n2, oa, ob, la, lb, ca, cb, t, o1, o2, A', htt, hla, hlb, hca, hcb, hoa, hob, hn1, hn2, ho1, ho2, rfl, rfl, rfl, rfl, rfl, hjj, hj⟩ := hrel
      have HJJ := Lib.hid hjj; have HJ := Lib.hid hj; have HO1 := Lib.hid ho1; have HO2 := Lib.hid ho2
      clear hjj hj ho1 ho2
      obtain ⟨wx, rfl⟩ : ∃ wo : World, wo = wr := ⟨_, rfl⟩
      have k1 : al.length ≤ i + la ∧ i + la ≤ al.length := ⟨by omega, by omega⟩
      have k2 : bl.length ≤ j + lb ∧ j + lb ≤ bl.length := ⟨by omega, by omega⟩
      have k3 : d ≤ i + ca ∧ i + ca ≤ d := ⟨by omega, by omega⟩
      have k4 : g ≤ j + cb ∧ j + cb ≤ g := ⟨by omega, by omega⟩
      have k5 : t ≤ i + j ∧ i + j ≤ t := ⟨by omega, by omega⟩
      clear hla hlb hca hcb htt
      by_cases hend : la + lb = 0
      · have e1 : la = 0 := by omega
        have e2 : lb = 0 := by omega
        have d1 : decide ((0 : Int) < (la : Int) + (lb : Int)) = false := decide_eq_false (by omega)
        have hls : IntKind.i64.wrap ((la : Int) + (lb : Int)) = (la : Int) + (lb : Int) := IntWalk.i64_in _ (by omega)
        have hone1 : o1 = true := by
          have h := HJJ.out.a
          rw [show i = al.length by omega] at h
          exact h.done HW.out (fun k hk => HA2.out _ (by rw [← HL.out]; exact mem_frags hk))
        have hone2 : o2 = true := by
          have h := HJJ.out.b
          rw [show j = bl.length by omega] at h
          exact h.done HW2.out (fun k hk => HB2.out _ (by rw [← HRR.out]; exact mem_frags hk))
        have hm1 := HO1.out hone1
        have hm2 := HO2.out hone2
        have d5 : decide ((1 : Int) ≤ (n1 : Int)) = true := decide_eq_true (by omega)
        have d6 : decide ((1 : Int) ≤ (n2 : Int)) = true := decide_eq_true (by omega)
        have HBEL := Lib.hid HJ.out.one.bel
        clear hone1 hone2
        go_wp2_with fail
        go_ret
        exact ⟨rfl, HBEL.out⟩
      have d1 : decide ((0 : Int) < (la : Int) + (lb : Int)) = true := decide_eq_true (by omega)
      have hls : IntKind.i64.wrap ((la : Int) + (lb : Int)) = (la : Int) + (lb : Int) := IntWalk.i64_in _ (by omega)
      go_upto_region 16 with fail
      go_cut [22] (fun s wy => ∃ bo, s = .bool bo ∧ (bo = true → 0 < la) ∧ (bo = false → 0 < lb) ∧ wy = wx)
      case first =>
        by_cases e1 : lb = 0
        · have t1 : ((lb : Int) == 0) = true := by simp; omega
          go_wp2_with fail
          go_meet
          exact ⟨true, rfl, fun _ => by omega, (fun e => by cases e), rfl⟩
        · have t1 : ((lb : Int) == 0) = false := by rw [beq_eq_false_iff_ne]; omega
          have t1' : ¬ ((lb : Int) = 0) := by omega
          by_cases e2 : la = 0
          · have t2 : decide ((0 : Int) < (la : Int)) = false := decide_eq_false (by omega)
            go_wp2_with fail
            all_goals go_meet
            all_goals exact ⟨false, rfl, (fun e => by cases e), fun _ => by omega, rfl⟩
          · have t2 : decide ((0 : Int) < (la : Int)) = true := decide_eq_true (by omega)
            by_cases e3 : nm = 0
            · have t3 : ((nm : Int) == 0) = true := by simp; omega
              have p2 : 0 < la := by omega
              have p3 : ¬ la = 0 := e2
              go_wp2_with fail
              all_goals first | (go_meet; exact ⟨true, rfl, fun _ => by omega, fun _ => by omega, rfl⟩) | (exfalso; omega)
            · have t3 : ((nm : Int) == 0) = false := by rw [beq_eq_false_iff_ne]; omega
              have t3' : ¬ ((nm : Int) = 0) := by omega
              have hmod := Nat.mod_lt t (show 0 < nm by omega)
              obtain ⟨ab, ao, tv, hAe, htl, hablt, -, hcell⟩ := (HM.out.below HJ.out.one.bel).at_ (t % nm) hmod
              subst hAe
              obtain ⟨m, hm⟩ : ∃ m, t % nm = m := ⟨_, rfl⟩
              rw [hm] at hcell hmod
              have hmi : (t : Int) % (nm : Int) = (m : Int) := by rw [← hm]; omega
              have m1 : (m : Int) < (nm : Int) := by omega
              have m0 : (0 : Int) ≤ (m : Int) := by omega
              clear hm htl
              have p2 : 0 < la := by omega
              have p3 : ¬ la = 0 := e2
              go_wp2_with fail
              all_goals first | (go_meet; exact ⟨tv, rfl, fun _ => by omega, fun _ => by omega, rfl⟩) | (exfalso; omega)
      case rest =>
      obtain ⟨bo, rfl, hbt, hbf, rfl⟩ := hcut
      obtain ⟨wx, rfl⟩ : ∃ wo : World, wo = wc := ⟨_, rfl⟩
      cases bo with
      | true =>
        have hpos := hbt rfl
        obtain ⟨P, hPk⟩ : ∃ P, al[i]? = some P := ⟨_, List.getElem?_eq_getElem (by omega)⟩
        obtain ⟨A2, R, ok, hput, hjj2, hok, hPs⟩ := HJJ.out.put1 HW.out HK.out hPk HA1'.out 0
        have hlenA := two_keys HJJ.out.nk HJJ.out.keys
        obtain rfl : oa = i * 9 := hoa (by omega)
        have hcells := HJ.out.row.cells hPk
        have hgl := HJ.out.row.lt
        obtain ⟨c0, c1, c2, c3, c4, c5, c6, c7, c8⟩ := hcells
        have HJJ2 := Lib.hid hjj2; have HOK := Lib.hid hok
        have hcap : la ≤ ca := by omega
        clear hjj2 hok hPk
        obtain ⟨lx, rfl⟩ : ∃ lx, la = lx + 1 := ⟨la - 1, by omega⟩
        obtain ⟨cx, rfl⟩ : ∃ cx, ca = cx + 1 := ⟨ca - 1, by omega⟩
        have v1 : (1 : Int) ≤ ((lx + 1 : Nat) : Int) := by omega
        have v2 : (1 : Int) ≤ ((cx + 1 : Nat) : Int) := by omega
        have v5 : (0 : Int) < ((lx + 1 : Nat) : Int) := by omega
        have HPUT := Lib.hid ((HJ.out.below ((Below.refl _ _).alloc (Nat.le_refl _) (.cells #[.int .i64 P.f, .int .i64 P.t, .int .i64 P.pr, .int .i64 P.ttl, .int .i64 P.id, .bool P.df, .bool P.mf, .int .i64 P.off, .string P.s] 30))).put 0 P R ok 0 hput (by omega) (by omega) (by unfold In64; omega))
        have HZB := Lib.hid (alloc_new wx (.cells #[.int .i64 P.f, .int .i64 P.t, .int .i64 P.pr, .int .i64 P.ttl, .int .i64 P.id, .bool P.df, .bool P.mf, .int .i64 P.off, .string P.s] 30))
        obtain ⟨zb, hzb⟩ : ∃ zb, wx.heap.size = zb := ⟨_, rfl⟩
        rw [hzb] at HZB
        have HZS := Lib.hid hzb
        clear hput hPs hzb
        go_upto_region 20 with fail
        rw [HZS.out]
        generalize wx.alloc (.cells #[.int .i64 P.f, .int .i64 P.t, .int .i64 P.pr, .int .i64 P.ttl, .int .i64 P.id, .bool P.df, .bool P.mf, .int .i64 P.off, .string P.s] 30) = w9 at *
        clear c0 c1 c2 c3 c4 c5 c6 c7 c8
        go_upto_region 23 with fail
        obtain ⟨o', ho', ho2⟩ : ∃ o', (if cx = 0 then some (⟨ga, i * 9, none⟩ : Addr) else some ⟨ga, i * 9 + 9, none⟩) = some ⟨ga, o', none⟩ ∧ (0 < lx → o' = (i + 1) * 9) := by
          split
          · exact ⟨_, rfl, fun _ => by omega⟩
          · exact ⟨_, rfl, fun _ => by omega⟩
        rw [ho']
        clear ho'
        obtain ⟨q0, q1, q2, q3, q4, q5, q6, q7, q8⟩ := (cells9 HZB.out).1
        go_wp2_with fail
        refine HPUT.out.mono ?_
        rintro x w10 ⟨rfl, hj10⟩
        unfold PutRes PkV
        clear q0 q1 q2 q3 q4 q5 q6 q7 q8 HPUT HZB HZS HJ
        have HJX := Lib.hid (hj10.below ((Below.refl _ _).alloc (Nat.le_refl _) (.cells #[.int .i64 R.f, .int .i64 R.t, .int .i64 R.pr, .int .i64 R.ttl, .int .i64 R.id, .bool R.df, .bool R.mf, .int .i64 R.off, .string R.s] 30)))
        have HRB := Lib.hid (alloc_new w10 (.cells #[.int .i64 R.f, .int .i64 R.t, .int .i64 R.pr, .int .i64 R.ttl, .int .i64 R.id, .bool R.df, .bool R.mf, .int .i64 R.off, .string R.s] 30))
        obtain ⟨rb, hrb⟩ : ∃ rb, w10.heap.size = rb := ⟨_, rfl⟩
        rw [hrb] at HRB
        have HRS := Lib.hid hrb
        clear hj10 hrb HJJ
        cases ok with
        | false =>
          go_wp2_with fail
          exact ⟨⟨i + 1, j, n1, n2, o', ob, lx, lb, cx, cb, t + 1, o1, o2, A2, by omega, by omega, by omega, by omega, by omega, (fun _ => by omega), hob, by omega, by omega, HO1.out, HO2.out, by simp, by simp, by simp, by simp, by go_num, by have := HJJ2.out; simpa using this, HJX.out⟩, by simp [Go.RowKit.intOf]; omega⟩
        | true =>
          obtain rfl : p = R := (HOK.out rfl).symm
          have HPK9 := Lib.hid HJX.out.pk; have HQK9 := Lib.hid HJX.out.qk
          have x1 : (q.id == p.id) = false := beq_eq_false_iff_ne.2 HID.out
          go_upto_region 26 with fail
          rw [HRS.out]
          clear HRS
          generalize w10.alloc (.cells #[.int .i64 p.f, .int .i64 p.t, .int .i64 p.pr, .int .i64 p.ttl, .int .i64 p.id, .bool p.df, .bool p.mf, .int .i64 p.off, .string p.s] 30) = w11 at *
          have y4 := (cell_of_block (k := 4) HRB.out rfl).1; have y8 := (cell_of_block (k := 8) HRB.out rfl).1
          have p4 := (cell_of_block (k := 4) HPK9.out rfl).1; have p8 := (cell_of_block (k := 8) HPK9.out rfl).1
          have q4 := (cell_of_block (k := 4) HQK9.out rfl).1; have q8 := (cell_of_block (k := 8) HQK9.out rfl).1
          go_wp2_with fail
          exact ⟨⟨i + 1, j, n1 + 1, n2, o', ob, lx, lb, cx, cb, t + 1, true, o2, A2, by omega, by omega, by omega, by omega, by omega, (fun _ => by omega), hob, by omega, by omega, (fun _ => by omega), HO2.out, by simp, by simp, by simp, by simp, by go_num, by have := HJJ2.out; simpa using this, HJX.out⟩, by simp [Go.RowKit.intOf]; omega⟩
      | false =>
        have hpos := hbf rfl
        obtain ⟨P, hPk⟩ : ∃ P, bl[j]? = some P := ⟨_, List.getElem?_eq_getElem (by omega)⟩
        obtain ⟨A2, R, ok, hput, hjj2, hok, hPs⟩ := HJJ.out.put2 HW2.out HK2.out hPk HB1'.out 0
        have hlenA := two_keys HJJ.out.nk HJJ.out.keys
        obtain rfl : ob = j * 9 := hob (by omega)
        have hcells := HJ.out.row2.cells hPk
        have hgl := HJ.out.row2.lt
        obtain ⟨c0, c1, c2, c3, c4, c5, c6, c7, c8⟩ := hcells
        have HJJ2 := Lib.hid hjj2; have HOK := Lib.hid hok
        have hcap : lb ≤ cb := by omega
        clear hjj2 hok hPk
        obtain ⟨lx, rfl⟩ : ∃ lx, lb = lx + 1 := ⟨lb - 1, by omega⟩
        obtain ⟨cx, rfl⟩ : ∃ cx, cb = cx + 1 := ⟨cb - 1, by omega⟩
        have v1 : (1 : Int) ≤ ((lx + 1 : Nat) : Int) := by omega
        have v2 : (1 : Int) ≤ ((cx + 1 : Nat) : Int) := by omega
        have v5 : (0 : Int) < ((lx + 1 : Nat) : Int) := by omega
        have HPUT := Lib.hid ((HJ.out.below ((Below.refl _ _).alloc (Nat.le_refl _) (.cells #[.int .i64 P.f, .int .i64 P.t, .int .i64 P.pr, .int .i64 P.ttl, .int .i64 P.id, .bool P.df, .bool P.mf, .int .i64 P.off, .string P.s] 30))).put 0 P R ok 0 hput (by omega) (by omega) (by unfold In64; omega))
        have HZB := Lib.hid (alloc_new wx (.cells #[.int .i64 P.f, .int .i64 P.t, .int .i64 P.pr, .int .i64 P.ttl, .int .i64 P.id, .bool P.df, .bool P.mf, .int .i64 P.off, .string P.s] 30))
        obtain ⟨zb, hzb⟩ : ∃ zb, wx.heap.size = zb := ⟨_, rfl⟩
        rw [hzb] at HZB
        have HZS := Lib.hid hzb
        clear hput hPs hzb
        go_upto_region 22 with fail
        rw [HZS.out]
        generalize wx.alloc (.cells #[.int .i64 P.f, .int .i64 P.t, .int .i64 P.pr, .int .i64 P.ttl, .int .i64 P.id, .bool P.df, .bool P.mf, .int .i64 P.off, .string P.s] 30) = w9 at *
        clear c0 c1 c2 c3 c4 c5 c6 c7 c8
        go_upto_region 23 with fail
        obtain ⟨o', ho', ho2⟩ : ∃ o', (if cx = 0 then some (⟨gb, j * 9, none⟩ : Addr) else some ⟨gb, j * 9 + 9, none⟩) = some ⟨gb, o', none⟩ ∧ (0 < lx → o' = (j + 1) * 9) := by
          split
          · exact ⟨_, rfl, fun _ => by omega⟩
          · exact ⟨_, rfl, fun _ => by omega⟩
        rw [ho']
        clear ho'
        obtain ⟨q0, q1, q2, q3, q4, q5, q6, q7, q8⟩ := (cells9 HZB.out).1
        go_wp2_with fail
        refine HPUT.out.mono ?_
        rintro x w10 ⟨rfl, hj10⟩
        unfold PutRes PkV
        clear q0 q1 q2 q3 q4 q5 q6 q7 q8 HPUT HZB HZS HJ
        have HJX := Lib.hid (hj10.below ((Below.refl _ _).alloc (Nat.le_refl _) (.cells #[.int .i64 R.f, .int .i64 R.t, .int .i64 R.pr, .int .i64 R.ttl, .int .i64 R.id, .bool R.df, .bool R.mf, .int .i64 R.off, .string R.s] 30)))
        have HRB := Lib.hid (alloc_new w10 (.cells #[.int .i64 R.f, .int .i64 R.t, .int .i64 R.pr, .int .i64 R.ttl, .int .i64 R.id, .bool R.df, .bool R.mf, .int .i64 R.off, .string R.s] 30))
        obtain ⟨rb, hrb⟩ : ∃ rb, w10.heap.size = rb := ⟨_, rfl⟩
        rw [hrb] at HRB
        have HRS := Lib.hid hrb
        clear hj10 hrb HJJ
        cases ok with
        | false =>
          go_wp2_with fail
          exact ⟨⟨i, j + 1, n1, n2, oa, o', la, lx, ca, cx, t + 1, o1, o2, A2, by omega, by omega, by omega, by omega, by omega, hoa, (fun _ => by omega), by omega, by omega, HO1.out, HO2.out, by simp, by simp, by simp, by simp, by go_num, by have := HJJ2.out; simpa using this, HJX.out⟩, by simp [Go.RowKit.intOf]; omega⟩
        | true =>
          obtain rfl : q = R := (HOK.out rfl).symm
          have HPK9 := Lib.hid HJX.out.pk; have HQK9 := Lib.hid HJX.out.qk
          have x1 : (q.id == p.id) = false := beq_eq_false_iff_ne.2 HID.out
          go_upto_region 26 with fail
          rw [HRS.out]
          clear HRS
          generalize w10.alloc (.cells #[.int .i64 q.f, .int .i64 q.t, .int .i64 q.pr, .int .i64 q.ttl, .int .i64 q.id, .bool q.df, .bool q.mf, .int .i64 q.off, .string q.s] 30) = w11 at *
          have y4 := (cell_of_block (k := 4) HRB.out rfl).1; have y8 := (cell_of_block (k := 8) HRB.out rfl).1
          have p4 := (cell_of_block (k := 4) HPK9.out rfl).1; have p8 := (cell_of_block (k := 8) HPK9.out rfl).1
          have q4 := (cell_of_block (k := 4) HQK9.out rfl).1; have q8 := (cell_of_block (k := 8) HQK9.out rfl).1
          go_wp2_with fail
          exact ⟨⟨i, j + 1, n1, n2 + 1, oa, o', la, lx, ca, cx, t + 1, o1, true, A2, by omega, by omega, by omega, by omega, by omega, hoa, (fun _ => by omega), by omega, by omega, HO1.out, (fun _ => by omega), by simp, by simp, by simp, by simp, by go_num, by have := HJJ2.out; simpa using this, HJX.out⟩, by simp [Go.RowKit.intOf]; omega⟩
theorem jL_len37 (x0 x1 x2 x3 x4 : Int) (xs : ByteArray) (id size : Int) : 2 ≤ (jL (jpk x0 x1 x2 x3 x4 xs id) (jN size)).length ∧ (jL (jpk x0 x1 x2 x3 x4 xs id) (jN size)).length ≤ 1000 := by
  have h1 := (jpk_whole x0 x1 x2 x3 x4 xs id size).cut.m2
  have h2 := jpk_size x0 x1 x2 x3 x4 xs id
  have h3 := jN_bd size
  have h4 : count (jpk x0 x1 x2 x3 x4 xs id) (jN size) ≤ (jpk x0 x1 x2 x3 x4 xs id).s.size + jN size - 1 := Nat.div_le_self _ _
  unfold jL
  rw [frags_length]
  omega
theorem pick_next (id : Int) : Gen.pick (Gen.pick id 65536 + 1) 65536 ≠ Gen.pick id 65536 := by
  have h := Gen.pick_lt id 65536 (by omega)
  generalize Gen.pick id 65536 = z at *
  unfold Gen.pick
  rw [if_neg (by omega)]
  omega
theorem mix37_law (x0 x1 x2 x3 x4 : Int) (xs : ByteArray) (y0 y1 y2 y3 y4 : Int) (ys : ByteArray) (id size : Int) (A : Option Addr) (nt ct : Nat) (tl : List Int) (M : Option Addr) (nm cm : Nat) (ml : List Bool) (w : World) (h0 : In64' x0) (h1 : In64' x1) (h2 : In64' x2) (h3 : In64' x3) (h4 : In64' x4) (hs : xs.size ≤ 9223372036854775807) (k2 : In64' y2) (k3 : In64' y3) (k4 : In64' y4) (ks : ys.size ≤ 9223372036854775807) (hi : In64' id) (hz : In64' size) (hA : ArgI w A nt tl) (hM : ArgO w M nm ml) :
    Calls Try.prog 11 #[.agg #[.int .i64 x0, .int .i64 x1, .int .i64 x2, .int .i64 x3, .int .i64 x4, .string xs], .agg #[.int .i64 y0, .int .i64 y1, .int .i64 y2, .int .i64 y3, .int .i64 y4, .string ys], .int .i64 id, .int .i64 size, .slice A nt ct, .slice M nm cm] w fun x w' => x = .returned (.bool true) ∧ Below w.heap.size w w' := by
  have hp := Gen.pick_lt id 65536 (by omega)
  refine mix37_aux x0 x1 x2 x3 x4 xs y0 y1 y2 y3 y4 ys id size (Gen.pick id 65536) A nt ct tl M nm cm ml (jpk x0 x1 x2 x3 x4 xs id) (jpk x0 x1 y2 y3 y4 ys (Gen.pick id 65536 + 1)) (jN size) (jN size) w (jpk_whole x0 x1 x2 x3 x4 xs id size) (jpk_whole x0 x1 y2 y3 y4 ys _ size) (pick_next id) hA hM (jL_len37 x0 x1 x2 x3 x4 xs id size) (jL_len37 x0 x1 y2 y3 y4 ys _ size) hp (fun W => Udp.pick_any id 65536 W hi.1 hi.2 (by omega) (by omega)) ?_ ?_
  · intro W _
    have := parts10_any x0 x1 x2 x3 x4 xs id size W h0 h1 h2 h3 h4 hi hz hs
    unfold PkV at this
    exact this
  · intro W _
    have := parts10_any x0 x1 y2 y3 y4 ys (Gen.pick id 65536 + 1) size W h0 h1 k2 k3 k4 ⟨by omega, by omega⟩ hz ks
    unfold PkV at this
    exact this
end Go.Proofs.Ytmeldgnjgogacaa.Re
