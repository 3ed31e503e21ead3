/-
  The reference's table: in memory and as plain data; find, ahead, ask, Known, Sizes, out, without, room, Receive; append onto rows (several texts in one).
-/
import Derived.Test.YtjdoemmfemogmaaArUse
import Derived.Test.YtjdoemmfemogmaaArSnt
import Derived.Test.YtjdoemmfemogmaaArRef
import Derived.Deep.AppendLies
import Derived.Test.YtjdoemmfemogmaaArRel
import Derived.Test.YtjdoemmfemogmaaBase1
import Derived.Deep.DeepCutAuto
import Derived.Deep.RegionHeld3
import Derived.Test.YtjdoemmfemogmaaArInv
import Derived.Test.YtjdoemmfemogmaaArRecv
import Derived.Laws.OwnMore
namespace Go.Proofs.Ytjdoemmfemogmaa.Ar
set_option maxRecDepth 100000
open Go.RowKit Go.Proofs.Ytjdoemmfemogmaa.Wire
/-- the list R holds the entries A in order of their addresses -/
structure Rel (R A : AL) : Prop where
  sorted : R.Pairwise (fun x y => x.1 < y.1)
  perm : R.Perm A
theorem Rel.nil : Rel [] [] := ⟨List.Pairwise.nil, List.Perm.refl _⟩
theorem Rel.nodR {R A : AL} (h : Rel R A) : (R.map (·.1)).Nodup := by
  have := h.sorted
  exact List.Pairwise.map _ (fun a b (hab : a.1 < b.1) => by omega) this
theorem Rel.nod {R A : AL} (h : Rel R A) : (A.map (·.1)).Nodup := (h.perm.map (·.1)).nodup_iff.1 h.nodR
theorem Rel.len {R A : AL} (h : Rel R A) : R.length = A.length := h.perm.length_eq
theorem Rel.look {R A : AL} (h : Rel R A) (k : Int) : Ar.look R k = Ar.look A k := by
  cases hk : Ar.look A k with
  | some v => exact look_of_mem h.nodR (h.perm.mem_iff.2 (look_mem hk))
  | none =>
    cases hr : Ar.look R k with
    | none => rfl
    | some v =>
      have := look_of_mem h.nod (h.perm.mem_iff.1 (look_mem hr))
      rw [hk] at this; cases this
theorem Rel.ord {R A : AL} (h : Rel R A) : ordA A = R := by
  have hk : (A.map (·.1)).mergeSort leI = R.map (·.1) := by
    have h1 : ((A.map (·.1)).mergeSort leI).Pairwise (fun a b => a ≤ b) := by
      have := List.pairwise_mergeSort (le := leI) (fun a b c h1 h2 => by unfold leI at *; simp at *; omega) (fun a b => by unfold leI; simp; omega) (A.map (·.1))
      exact this.imp (fun {a b} q => by unfold leI at q; simpa using q)
    have h2 : (R.map (·.1)).Pairwise (fun a b => a ≤ b) := List.Pairwise.map _ (fun a b (hab : a.1 < b.1) => by omega) h.sorted
    have h3 : ((A.map (·.1)).mergeSort leI).Perm (R.map (·.1)) := (List.mergeSort_perm _ _).trans (h.perm.map (·.1)).symm
    exact h3.eq_of_pairwise (fun a b _ _ h1 h2 => by omega) h1 h2
  unfold ordA
  rw [hk]
  have : ∀ l : AL, (∀ x ∈ l, x ∈ R) → (l.map (·.1)).filterMap (fun k => (Ar.look A k).map fun v => (k, v)) = l := by
    intro l
    induction l with
    | nil => intro _; rfl
    | cons x l ih =>
      intro hl
      have hx : Ar.look A x.1 = some x.2 := look_of_mem h.nod (h.perm.mem_iff.1 (hl x (List.mem_cons_self ..)))
      rw [List.map_cons, List.filterMap_cons, hx]
      show (x.1, x.2) :: _ = _
      rw [ih (fun y hy => hl y (List.mem_cons_of_mem _ hy))]
  exact this R (fun _ hx => hx)
theorem Rel.upd {R A : AL} (h : Rel R A) (k : Int) (v : Ev) : Rel (upd R k v) (upd A k v) := by
  refine ⟨?_, h.perm.map _⟩
  unfold Ar.upd
  refine List.Pairwise.map _ (fun a b (hab : a.1 < b.1) => ?_) h.sorted
  by_cases h1 : a.1 = k <;> by_cases h2 : b.1 = k <;> simp [h1, h2] <;> omega
theorem Rel.filter {R A : AL} (h : Rel R A) (p : Int × Ev → Bool) : Rel (R.filter p) (A.filter p) := ⟨h.sorted.sublist List.filter_sublist, h.perm.filter p⟩
theorem Rel.tick {R A : AL} (h : Rel R A) (now : Int) : Rel (R.filterMap (tick1 now)) (A.filterMap (tick1 now)) := by
  refine ⟨?_, h.perm.filterMap _⟩
  rw [List.pairwise_filterMap]
  refine h.sorted.imp (fun {a b} hab x hx y hy => ?_)
  rw [tick1_key hx, tick1_key hy]; exact hab
/-- an entry at its place -/
def rIns (R : AL) (x : Int × Ev) : AL := (R.takeWhile fun y => decide (y.1 < x.1)) ++ x :: (R.dropWhile fun y => decide (y.1 < x.1))
theorem take_lt {x : Int × Ev} : ∀ (R : AL) {y : Int × Ev}, y ∈ R.takeWhile (fun y => decide (y.1 < x.1)) → y.1 < x.1
  | [], y, h => by simp at h
  | z :: R, y, h => by
    rw [List.takeWhile_cons] at h
    by_cases hz : z.1 < x.1
    · rw [if_pos (by simpa using hz)] at h
      rcases List.mem_cons.1 h with rfl | h
      · exact hz
      · exact take_lt R h
    · rw [if_neg (by simpa using hz)] at h
      simp at h
theorem Rel.ins {R A : AL} (h : Rel R A) {x : Int × Ev} (hx : x.1 ∉ A.map (·.1)) : Rel (rIns R x) (A ++ [x]) := by
  have hxR : x.1 ∉ R.map (·.1) := fun q => hx ((h.perm.map (·.1)).mem_iff.1 q)
  have hsplit := List.takeWhile_append_dropWhile (p := fun y : Int × Ev => decide (y.1 < x.1)) (l := R)
  refine ⟨?_, ?_⟩
  · unfold rIns
    have hs := h.sorted
    rw [← hsplit, List.pairwise_append] at hs
    have ht : ∀ y ∈ R.takeWhile (fun y => decide (y.1 < x.1)), y.1 < x.1 := fun y hy => take_lt R hy
    have hd : ∀ (l : AL), l.Pairwise (fun x y => x.1 < y.1) → (∀ y ∈ l, y.1 ≠ x.1) → ∀ y ∈ l.dropWhile (fun y => decide (y.1 < x.1)), x.1 < y.1 := by
      intro l
      induction l with
      | nil => intro _ _ y hy; simp at hy
      | cons z l ih =>
        intro hl hne y hy
        rw [List.dropWhile_cons] at hy
        by_cases hz : z.1 < x.1
        · rw [if_pos (by simpa using hz)] at hy
          exact ih (List.pairwise_cons.1 hl).2 (fun y hy => hne y (List.mem_cons_of_mem _ hy)) y hy
        · rw [if_neg (by simpa using hz)] at hy
          have hzx := hne z (List.mem_cons_self ..)
          rcases List.mem_cons.1 hy with rfl | hy
          · omega
          · have := (List.pairwise_cons.1 hl).1 y hy; omega
    have hd := hd R h.sorted (fun y hy e => hxR (by rw [← e]; exact List.mem_map_of_mem hy))
    rw [List.pairwise_append]
    refine ⟨hs.1, List.pairwise_cons.2 ⟨hd, hs.2.1⟩, fun a ha b hb => ?_⟩
    rcases List.mem_cons.1 hb with rfl | hb
    · exact ht a ha
    · exact hs.2.2 a ha b hb
  · unfold rIns
    refine List.perm_middle.trans ?_
    rw [hsplit]
    exact ((h.perm.cons x).trans (List.perm_append_singleton x A).symm)
/-- is x evicted before y? -/
def aheadB (x y : Int × Ev) : Bool :=
  match x.2, y.2 with
  | .inc .., .res .. => true
  | .res .., .inc .. => false
  | .res _ _ u, .res _ _ v => decide (u < v)
  | .inc _ _ f _, .inc _ _ g _ => decide (f < g)
def pickB (b y : Int × Ev) : Int × Ev := if aheadB y b = true then y else b
def tmOf : Ev → Int
  | .inc _ _ f _ => f
  | .res _ _ u => u
def isInc : Ev → Bool
  | .inc .. => true
  | .res .. => false
theorem vic_pick (b y : Int × Ev) (hb : b.1 ≠ 0) : vicStep (b.1, tmOf b.2, isInc b.2) y = ((pickB b y).1, tmOf (pickB b y).2, isInc (pickB b y).2) := by
  obtain ⟨k, v⟩ := b; obtain ⟨k', v'⟩ := y
  dsimp only at hb
  unfold vicStep pickB aheadB
  cases v <;> cases v' <;> simp [tmOf, isInc, hb]
  all_goals split <;> simp_all
theorem pick_or (b y : Int × Ev) : pickB b y = b ∨ pickB b y = y := by unfold pickB; split <;> simp
theorem fold_pick : ∀ (l : AL) (b : Int × Ev), b.1 ≠ 0 → (∀ y ∈ l, y.1 ≠ 0) → l.foldl vicStep (b.1, tmOf b.2, isInc b.2) = ((l.foldl pickB b).1, tmOf (l.foldl pickB b).2, isInc (l.foldl pickB b).2)
  | [], b, _, _ => rfl
  | y :: l, b, hb, hl => by
    rw [List.foldl_cons, List.foldl_cons, vic_pick b y hb]
    refine fold_pick l _ ?_ (fun z hz => hl z (List.mem_cons_of_mem _ hz))
    rcases pick_or b y with e | e
    · rw [e]; exact hb
    · rw [e]; exact hl y (List.mem_cons_self ..)
/-- the reference's choice is the table's -/
theorem Rel.vic {x : Int × Ev} {R A : AL} (h : Rel (x :: R) A) (h0 : ∀ y ∈ A, y.1 ≠ 0) : vicA A = (R.foldl pickB x).1 := by
  unfold vicA
  rw [h.ord, List.foldl_cons]
  have hx := h0 x (h.perm.mem_iff.1 (List.mem_cons_self ..))
  have e : vicStep (0, 0, false) x = (x.1, tmOf x.2, isInc x.2) := by
    obtain ⟨k, v⟩ := x
    unfold vicStep
    cases v <;> simp [tmOf, isInc]
  rw [e, fold_pick R x hx (fun y hy => h0 y (h.perm.mem_iff.1 (List.mem_cons_of_mem _ hy)))]
end Go.Proofs.Ytjdoemmfemogmaa.Ar

namespace Go.Proofs.Ytjdoemmfemogmaa.Ar
set_option maxRecDepth 100000
open Go.RowKit Go.Proofs.Ytjdoemmfemogmaa.Wire

/-- an entry of the reference, with the row of its packets -/
structure Re where
  k : Int
  v : Ev
  A : Option Addr
  c : Nat
def Re.cells (e : Re) : List Value := match e.v with
  | .inc held sent first last => [.int .i64 e.k, .bool false, .int .i64 0, .int .i64 0, .int .i64 0, .slice e.A held.length e.c, .int .i64 sent, .int .i64 first, .int .i64 last]
  | .res mac since used => [.int .i64 e.k, .bool true, .int .i64 mac, .int .i64 since, .int .i64 used, .slice none 0 0, .int .i64 0, .int .i64 0, .int .i64 0]
theorem Re.len (e : Re) : e.cells.length = 9 := by unfold Re.cells; cases e.v <;> rfl
def Re.ok (W : World) (lo : Nat) (e : Re) : Prop := match e.v with
  | .inc held _ _ _ => ORow 9 1 strC W lo e.A e.c held
  | .res .. => e.A = none
abbrev EnRow (W : World) (lo : Nat) (D : Option Addr) (d : Nat) (L : List Re) : Prop := SRow 111 9 Re.cells W lo D d L
structure RTab (W : World) (lo T : Nat) (c : Tc) (D : Option Addr) (d : Nat) (L : List Re) : Prop where
  tab : W.heap[T]? = some (.cells #[.int .i64 c.own, .int .i64 c.mac, .slice D L.length d, .bool c.ann, .int .i64 c.at_] 109)
  row : EnRow W lo D d L
  ok : ∀ e ∈ L, e.ok W lo
  lo : lo ≤ T
  ne1 : ∀ q, BK D q → q ≠ T
  ne2 : ∀ e ∈ L, ∀ q, BK e.A q → q ≠ T ∧ ¬ BK D q
def absR (L : List Re) : AL := L.map fun e => (e.k, e.v)
def ROwn (T : Nat) (D : Option Addr) (L : List Re) (q : Nat) : Prop := q = T ∨ BK D q ∨ ∃ e ∈ L, BK e.A q
section
variable {W W' : World} {lo T : Nat} {c : Tc} {D : Option Addr} {d : Nat} {L : List Re}
theorem Re.ok_kept {e : Re} (h : e.ok W lo) (hk : ∀ q, BK e.A q → W'.heap[q]? = W.heap[q]?) : e.ok W' lo := by
  obtain ⟨k, v, A, c⟩ := e
  cases v with
  | inc held sent first last => exact ORow.kept h (fun a ha => hk _ ⟨a, ha, rfl⟩)
  | res mac since used => exact h
theorem Re.ok_lt {e : Re} (h : e.ok W lo) {q : Nat} (hq : BK e.A q) : lo ≤ q ∧ q < W.heap.size := by
  obtain ⟨k, v, A, c⟩ := e
  cases v with
  | inc held sent first last => exact ORow.lt h hq
  | res mac since used =>
    have h2 : A = none := h
    dsimp only at hq
    rw [h2] at hq; exact absurd hq (bk_none q)
theorem RTab.lt (h : RTab W lo T c D d L) {q : Nat} (hq : ROwn T D L q) : lo ≤ q ∧ q < W.heap.size := by
  rcases hq with rfl | hq | ⟨e, he, hq⟩
  · exact ⟨h.lo, blk_lt h.tab⟩
  · exact h.row.bk' hq
  · exact Re.ok_lt (h.ok e he) hq
theorem RTab.kept (h : RTab W lo T c D d L) (hk : ∀ q, ROwn T D L q → W'.heap[q]? = W.heap[q]?) : RTab W' lo T c D d L :=
  ⟨(hk T (.inl rfl)).trans h.tab, h.row.kept (fun a e => hk _ (.inr (.inl ⟨a, e, rfl⟩))), fun e he => Re.ok_kept (h.ok e he) (fun q hq => hk q (.inr (.inr ⟨e, he, hq⟩))), h.lo, h.ne1, h.ne2⟩
theorem RTab.below (h : RTab W lo T c D d L) (hb : Below W.heap.size W W') : RTab W' lo T c D d L := h.kept (fun q hq => hb.block q (h.lt hq).2)
theorem cellsR (h : RTab W lo T c D d L) : W.cell? ⟨T, 0, none⟩ = some (.int .i64 c.own) ∧ W.cell? ⟨T, 1, none⟩ = some (.int .i64 c.mac) ∧ W.cell? ⟨T, 2, none⟩ = some (.slice D L.length d) ∧ W.cell? ⟨T, 3, none⟩ = some (.bool c.ann) ∧ W.cell? ⟨T, 4, none⟩ = some (.int .i64 c.at_) := (cells5 h.tab).1
theorem Re.k0 (e : Re) : e.cells[0]? = some (.int .i64 e.k) := by unfold Re.cells; cases e.v <;> rfl
theorem RTab.key (h : RTab W lo T c D d L) {g : Nat} (hD : D = some ⟨g, 0, none⟩) {i : Nat} {e : Re} (hi : L[i]? = some e) : W.cell? ⟨g, i * 9, none⟩ = some (.int .i64 e.k) := by
  have := h.row.cell Re.len hD hi (r := 0) (by omega) e.k0
  simpa using this
set_option maxHeartbeats 4000000 in
theorem find_ref (a : Int) (w : World) (h : RTab w lo T c D d L) (hL : L.length ≤ 1000) :
    Calls Try.prog 54 #[.pointer (some ⟨T, 0, none⟩), .int .i64 a] w fun x w' => ((∃ (i : Nat) (e : Re), L[i]? = some e ∧ e.k = a ∧ x = .returned (.int .i64 (i : Int))) ∨ ((∀ e ∈ L, e.k ≠ a) ∧ x = .returned (.int .i64 (-1)))) ∧ w = w' := by
  obtain ⟨-, -, t2, -⟩ := cellsR h
  have HT := Lib.hid h
  obtain ⟨n, hn⟩ : ∃ n, L.length = n := ⟨_, rfl⟩
  have HN := Lib.hid hn
  rw [hn] at t2 hL
  clear h hn
  go_enter Try.func54, Try.ntmps54
  go_wp2_with fail
  go_loopw [5] (fun iv wr => ∃ k : Nat, k ≤ n ∧ iv = .int .i64 (k : Int) ∧ wr = w ∧ ∀ j e, j < k → L[j]? = some e → e.k ≠ a) (fun iv _ => n - (Go.RowKit.intOf iv).toNat)
  case atStart => exact ⟨0, by omega, rfl, rfl, fun j e hj => by omega⟩
  case round =>
    obtain ⟨k, hk, rfl, rfl, hpre⟩ := hrel
    have HP := Lib.hid hpre
    clear hpre
    by_cases hlt : k < n
    · have d1 : decide ((k : Int) < (n : Int)) = true := decide_eq_true (by omega)
      have k0 : (0 : Int) ≤ (k : Int) := by omega
      have k1 : (k : Int) < (n : Int) := by omega
      obtain ⟨e, he⟩ : ∃ e, L[k]? = some e := ⟨_, List.getElem?_eq_getElem (by rw [HN.out]; exact hlt)⟩
      obtain ⟨g, rfl, -⟩ := HT.out.row.addr (by rw [HN.out]; omega)
      have c0 := HT.out.key rfl he
      have HE := Lib.hid he
      clear he
      by_cases hka : e.k = a
      · have d2 : (e.k == a) = true := beq_iff_eq.2 hka
        have HKA := Lib.hid hka
        clear hka
        go_wp2_with fail
        all_goals first | (exfalso; omega) | skip
        go_ret
        exact ⟨.inl ⟨k, e, HE.out, HKA.out, rfl⟩, rfl⟩
      · have d2 : (e.k == a) = false := beq_eq_false_iff_ne.2 hka
        have HKA := Lib.hid hka
        clear hka
        go_wp2_with fail
        all_goals first | (exfalso; omega) | skip
        refine ⟨⟨k + 1, by omega, by go_num, trivial, fun j e' hj he' => ?_⟩, by simp [Go.RowKit.intOf]; omega⟩
        by_cases q : j = k
        · subst q
          have := HE.out
          rw [he'] at this; cases this
          exact HKA.out
        · exact HP.out j e' (by omega) he'
    · obtain rfl : k = n := by omega
      have d1 : decide ((k : Int) < (k : Int)) = false := decide_eq_false (by omega)
      go_wp2_with fail
      all_goals first | (exfalso; omega) | skip
      go_ret
      refine ⟨.inr ⟨fun e he => ?_, rfl⟩, rfl⟩
      obtain ⟨j, hj⟩ := List.mem_iff_getElem?.1 he
      exact HP.out j e (by have := (List.getElem?_eq_some_iff.1 hj).1; rw [HN.out] at this; exact this) hj
end
end Go.Proofs.Ytjdoemmfemogmaa.Ar

namespace Go.Proofs.Ytjdoemmfemogmaa.Ar
set_option maxRecDepth 100000
open Go.RowKit Go.Proofs.Ytjdoemmfemogmaa.Wire

/-- an entry as a value -/
def Re.agg (e : Re) : Value := .agg e.cells.toArray
section
variable {W W' : World} {lo T : Nat} {c : Tc} {D : Option Addr} {d : Nat} {L : List Re}
theorem RTab.at_ (h : RTab W lo T c D d L) {g : Nat} (hD : D = some ⟨g, 0, none⟩) {i : Nat} {e : Re} (hi : L[i]? = some e) {r : Nat} {u : Value} (hr : r < 9) (hu : e.cells[r]? = some u) : W.cell? ⟨g, i * 9 + r, none⟩ = some u := h.row.cell Re.len hD hi hr hu
set_option maxHeartbeats 4000000 in
theorem ahead_ref (x y : Re) (w : World) : Calls Try.prog 63 #[x.agg, y.agg] w fun e w' => e = .returned (.bool (aheadB (x.k, x.v) (y.k, y.v))) ∧ Below w.heap.size w w' := by
  obtain ⟨k, v, A, cx⟩ := x; obtain ⟨k', v', A', cx'⟩ := y
  have H2 := fun (o1 o2 : Obj) => Lib.hid (below_alloc (o := o2) (below_alloc (o := o1) (Below.refl w.heap.size w)))
  unfold Re.agg Re.cells aheadB
  cases v <;> cases v'
  all_goals
    dsimp only
    go_enter Try.func63, Try.ntmps63
    go_wp2_with fail
    all_goals
      go_ret
      exact ⟨rfl, (H2 _ _).out⟩
set_option maxHeartbeats 4000000 in
theorem ask_ref (a : Int) (w : World) (h : RTab w lo T c D d L) : Calls Try.prog 56 #[.pointer (some ⟨T, 0, none⟩), .int .i64 a] w fun e w' => e = .returned (.agg #[.int .i64 1, .int .i64 c.own, .int .i64 c.mac, .int .i64 a, .int .i64 0]) ∧ Below w.heap.size w w' := by
  obtain ⟨q0, q1, -⟩ := cellsR h
  have lt := blk_lt h.tab
  clear h
  go_enter Try.func56, Try.ntmps56
  go_upto_region 1 with fail
  go_region
  all_goals
    have HZ := Lib.hid (alloc_new w (.cells #[.int .i64 1, .int .i64 c.own, .int .i64 c.mac, .int .i64 a, .int .i64 0] 23))
    go_wp2_with fail
    refine bodyPost_ret (v := .agg #[.int .i64 1, .int .i64 c.own, .int .i64 c.mac, .int .i64 a, .int .i64 0]) (res_cell1 Try.results56 (by exact HZ.out) rfl Try.underlying23 rfl (by kernel_rfl)) rfl ?_
    exact ⟨rfl, (below_alloc (Below.refl _ _)).drew⟩
theorem absR_none {a : Int} (h : ∀ e ∈ L, e.k ≠ a) : look (absR L) a = none := by
  unfold look absR
  rw [List.find?_map, Option.map_map, Option.map_eq_none_iff, List.find?_eq_none]
  intro e he; simp; exact h e he
theorem absR_keys (L : List Re) : (absR L).map (·.1) = L.map (·.k) := by unfold absR; rw [List.map_map]; rfl
theorem absR_some (hn : ((absR L).map (·.1)).Nodup) {i : Nat} {e : Re} (hi : L[i]? = some e) : look (absR L) e.k = some e.v := look_of_mem hn (List.mem_map_of_mem (List.mem_of_getElem? hi))
set_option maxHeartbeats 4000000 in
theorem known_ref (a : Int) (w : World) (h : RTab w lo T c D d L) (hL : L.length ≤ 1000) (hn : ((absR L).map (·.1)).Nodup) :
    Calls Try.prog 36 #[.pointer (some ⟨T, 0, none⟩), .int .i64 a] w fun x w' => x = .returned (knownV (look (absR L) a)) ∧ w = w' := by
  have HT := Lib.hid h; have HN := Lib.hid hn
  have HF := Lib.hid (find_ref a w h hL)
  obtain ⟨-, -, t2, -⟩ := cellsR h
  obtain ⟨n, hln⟩ : ∃ n, L.length = n := ⟨_, rfl⟩
  have HLN := Lib.hid hln
  rw [hln] at t2 hL
  clear h hn hln
  go_enter Try.func36, Try.ntmps36
  go_wp2_with fail
  refine HF.out.mono ?_
  rintro x w' ⟨⟨i, e, hi, hk, rfl⟩ | ⟨hno, rfl⟩, rfl⟩
  · have hil : i < n := by have := (List.getElem?_eq_some_iff.1 hi).1; rw [HLN.out] at this; exact this
    have i0 : (0 : Int) ≤ (i : Int) := by omega
    have i1 : (i : Int) < (n : Int) := by omega
    have d1 : decide ((i : Int) < 0) = false := decide_eq_false (by omega)
    obtain ⟨g, rfl, -⟩ := HT.out.row.addr (by rw [HLN.out]; omega)
    have hl := absR_some HN.out hi
    rw [hk] at hl
    have HL := Lib.hid hl
    obtain ⟨ke, v, A, cx⟩ := e
    cases v with
    | inc held sent first last =>
      have c1 := HT.out.at_ rfl hi (r := 1) (by omega) rfl
      clear hi hk hl
      go_wp2_with fail
      all_goals first | (exfalso; omega) | skip
      go_ret2
      exact ⟨by rw [HL.out]; rfl, rfl⟩
    | res mac since used =>
      have c1 := HT.out.at_ rfl hi (r := 1) (by omega) rfl
      have c2 := HT.out.at_ rfl hi (r := 2) (by omega) rfl
      clear hi hk hl
      go_wp2_with fail
      all_goals first | (exfalso; omega) | skip
      go_ret2
      exact ⟨by rw [HL.out]; rfl, rfl⟩
  · have hl := Lib.hid (absR_none hno)
    clear hno
    go_wp2_with fail
    go_ret2
    exact ⟨by rw [hl.out]; rfl, rfl⟩
end
end Go.Proofs.Ytjdoemmfemogmaa.Ar

namespace Go.Proofs.Ytjdoemmfemogmaa.Ar
set_option maxRecDepth 100000
open Go.RowKit Go.Proofs.Ytjdoemmfemogmaa.Wire

def sumN : AL → Nat → Int
  | _, 0 => 0
  | [], _ => 0
  | x :: A, k + 1 => x.2.n + sumN A k
theorem sumN_all : ∀ A : AL, sumN A A.length = sumA A
  | [] => rfl
  | x :: A => by
    show x.2.n + sumN A A.length = x.2.n + sumA A
    rw [sumN_all A]
theorem sumN_succ : ∀ (A : AL) (k : Nat) (x : Int × Ev), A[k]? = some x → sumN A (k + 1) = sumN A k + x.2.n
  | [], k, x, h => by simp at h
  | y :: A, 0, x, h => by
    have : y = x := by simpa using h
    subst this
    unfold sumN
    cases A <;> simp [sumN]
  | y :: A, k + 1, x, h => by
    have := sumN_succ A k x (by simpa using h)
    show y.2.n + sumN A (k + 1) = y.2.n + sumN A k + x.2.n
    rw [this]; omega
section
variable {W W' : World} {lo T : Nat} {c : Tc} {D : Option Addr} {d : Nat} {L : List Re}
set_option maxHeartbeats 4000000 in
theorem sizes_ref (w : World) (h : RTab w lo T c D d L) (hL : L.length ≤ 1000) (hb : ∀ e ∈ L, 0 ≤ e.v.n ∧ e.v.n ≤ 1000) :
    Calls Try.prog 35 #[.pointer (some ⟨T, 0, none⟩)] w fun x w' => x = .returned (.tuple #[.int .i64 (L.length : Int), .int .i64 (sumA (absR L))]) ∧ w = w' := by
  obtain ⟨-, -, t2, -⟩ := cellsR h
  have HT := Lib.hid h; have HB := Lib.hid hb
  obtain ⟨n, hn⟩ : ∃ n, L.length = n := ⟨_, rfl⟩
  have HN := Lib.hid hn
  have hAn : (absR L).length = n := by unfold absR; rw [List.length_map]; exact hn
  have HS : Hid (sumN (absR L) n = sumA (absR L)) := Lib.hid (by rw [← hAn]; exact sumN_all _)
  rw [hn] at t2 hL ⊢
  clear h hn hb hAn
  go_enter Try.func35, Try.ntmps35
  go_wp2_with fail
  go_loopw [4, 5] (fun zv iv wr => ∃ (k : Nat) (z : Int), k ≤ n ∧ iv = .int .i64 (k : Int) ∧ zv = .int .i64 z ∧ z = sumN (absR L) k ∧ (0 ≤ z ∧ z ≤ 1000 * (k : Int)) ∧ wr = w) (fun _ iv _ => n - (Go.RowKit.intOf iv).toNat)
  case atStart => exact ⟨0, 0, by omega, rfl, rfl, by cases (absR L) <;> rfl, by omega, rfl⟩
  case round =>
    obtain ⟨k, z, hk, rfl, rfl, hz, hzb, rfl⟩ := hrel
    have HZ := Lib.hid hz
    clear hz
    by_cases hlt : k < n
    · have d1 : decide ((k : Int) < (n : Int)) = true := decide_eq_true (by omega)
      have k0 : (0 : Int) ≤ (k : Int) := by omega
      have k1 : (k : Int) < (n : Int) := by omega
      obtain ⟨e, he⟩ : ∃ e, L[k]? = some e := ⟨_, List.getElem?_eq_getElem (by rw [HN.out]; exact hlt)⟩
      obtain ⟨g, rfl, -⟩ := HT.out.row.addr (by rw [HN.out]; omega)
      have hA : (absR L)[k]? = some (e.k, e.v) := by unfold absR; rw [List.getElem?_map, he]; rfl
      have hs := sumN_succ (absR L) k _ hA
      have hbe := HB.out e (List.mem_of_getElem? he)
      obtain ⟨A0, c0, ln, hcell, hln⟩ : ∃ (A0 : Option Addr) (c0 ln : Nat), e.cells[5]? = some (.slice A0 ln c0) ∧ e.v.n = (ln : Int) := by
        unfold Re.cells
        cases hv : e.v with
        | inc held sent first last => exact ⟨e.A, e.c, held.length, rfl, rfl⟩
        | res mac since used => exact ⟨none, 0, 0, rfl, rfl⟩
      have c5 := HT.out.at_ rfl he (r := 5) (by omega) hcell
      rw [show ((e.k, e.v) : Int × Ev).2.n = (ln : Int) from hln, ← HZ.out] at hs
      rw [hln] at hbe
      have HSU := Lib.hid hs
      have hw : IntKind.i64.wrap (z + (ln : Int)) = z + (ln : Int) := IntWalk.i64_in _ (by omega)
      clear hA hs he hcell hln
      go_wp2_with fail
      all_goals first | (exfalso; omega) | skip
      exact ⟨⟨k + 1, _, by omega, by go_num, rfl, HSU.out.symm, by omega, trivial⟩, by simp [Go.RowKit.intOf]; omega⟩
    · obtain rfl : k = n := by omega
      have d1 : decide ((k : Int) < (k : Int)) = false := decide_eq_false (by omega)
      go_wp2_with fail
      all_goals first | (exfalso; omega) | skip
      go_ret2
      exact ⟨by rw [HZ.out, HS.out]; rfl, rfl⟩
set_option maxHeartbeats 4000000 in
theorem out_ref (A : Option Addr) (cx : Nat) (held : List ByteArray) (a mac : Int) (w : World) (hr : ORow 9 1 strC w lo A cx held) (hl : held.length ≤ 1000) :
    Calls Try.prog 57 #[.slice A held.length cx, .int .i64 a, .int .i64 mac] w fun e w' => (∃ B cb, e = .returned (.slice B held.length cb) ∧ HRow w' w.heap.size B cb (held.map fun s => (⟨a, mac, s⟩ : Hp))) ∧ Below w.heap.size w w' := by
  obtain ⟨i0, hi, hz0, hz1, hz2⟩ := info_parts infoHp
  have HI := Lib.hid hi; have HZ0 := Lib.hid hz0; have HZ1 := Lib.hid hz1; have HZ2 := Lib.hid hz2
  obtain ⟨N, hN⟩ : ∃ N, held.length = N := ⟨_, rfl⟩
  rw [hN] at hl
  have HR := Lib.hid hr; have HN := Lib.hid hN
  rw [hN]
  clear hi hz0 hz1 hz2 hr hN
  go_enter Try.func57, Try.ntmps57
  go_wp2_with fail
  go_loopw [7, 8] (fun o i wr => ∃ (k : Nat) (B : Option Addr) (cb : Nat), k ≤ N ∧ i = .int .i64 (k : Int) ∧ o = .slice B k cb ∧ HRow wr w.heap.size B cb ((held.take k).map fun s => (⟨a, mac, s⟩ : Hp)) ∧ Below w.heap.size w wr) (fun _ i _ => N - (Go.RowKit.intOf i).toNat)
  case atStart => exact ⟨0, none, 0, Nat.zero_le _, rfl, rfl, SRow.nil _ _ _ _ _, Below.refl _ _⟩
  case round =>
    obtain ⟨k, B, cb, hk, rfl, rfl, hO, hB⟩ := hrel
    have HO := Lib.hid hO; have HB := Lib.hid hB; clear hO hB
    obtain ⟨wx, rfl⟩ : ∃ wo : World, wo = wr := ⟨_, rfl⟩
    by_cases hlt : k < N
    · have hkl : decide ((k : Int) < (N : Int)) = true := decide_eq_true (by omega)
      have hk0 : (0 : Int) ≤ (k : Int) := by omega
      have hk1 : (k : Int) < (N : Int) := by omega
      obtain ⟨s, hs⟩ : ∃ s, held[k]? = some s := ⟨_, List.getElem?_eq_getElem (by rw [HN.out]; exact hlt)⟩
      obtain ⟨g, off, rfl, hc⟩ := ORow.cell (HR.out.kept (W' := wx) (fun a e => HB.out.block _ (HR.out.bk e).2)) (fun _ => rfl) hs (r := 0) (by omega) rfl
      have c0 : wx.cell? ⟨g, off + k, none⟩ = some (.string s) := by simpa using hc
      have hlen : ((held.take k).map fun s => (⟨a, mac, s⟩ : Hp)).length = k := by simp; rw [HN.out]; omega
      have HL := Lib.hid hlen
      have hz := HB.out.size
      have htk : (held.take (k + 1)).map (fun s => (⟨a, mac, s⟩ : Hp)) = (held.take k).map (fun s => (⟨a, mac, s⟩ : Hp)) ++ [⟨a, mac, s⟩] := by
        rw [List.take_add_one, hs]; simp
      have HTK := Lib.hid htk
      have hOw : wx.ownsRow w.heap.size 59 3 (.slice B k cb) k (((held.take k).map fun s => (⟨a, mac, s⟩ : Hp)).flatMap Hp.cells) := by have := HO.out; unfold HRow SRow at this; rw [hlen] at this; exact this
      have HOW := Lib.hid hOw
      clear hs hlen htk hOw hc
      go_wp2_with (at_builtin; refine wpList_append_lies _ rfl (.tmp 15) (.tmp 23) 43 rfl w.heap.size 59 i0 (.agg #[.int .i64 0, .int .i64 0, .string ⟨#[]⟩]) 3 32 Try.underlying43 HI.out HZ0.out HZ1.out HZ2.out rfl (by decide) (.slice B k cb) k _ rfl (HOW.out.alloc _) ⟨wx.heap.size, 0, none⟩ 1 1 [.int .i64 a, .int .i64 mac, .string s] rfl rfl (World.news_of_block (heap_alloc_new wx _)) (by simp [Value.oneCell']) (by omega) (by unfold maxLen; omega) (by omega) (by simp; omega) (wx.heap.size + 1) (by simp) ?_; intro g2 cap w7 hown hgrow hat hlt)
      all_goals first | (exfalso; omega) | skip
      refine ⟨⟨k + 1, _, _, by omega, by go_num, rfl, ?_, ?_⟩, by simp [Go.RowKit.intOf]; omega⟩
      · rw [HTK.out]
        exact SRow.app (x := (⟨a, mac, s⟩ : Hp)) (by rw [HL.out]; exact hown)
      · exact (below_alloc HB.out).grown hgrow (by simp; omega) (fun q e => by have := (HO.out.bk' (ob_bk e)).1; omega)
    · obtain rfl : k = N := by omega
      have hkl : decide ((k : Int) < (k : Int)) = false := by simp
      go_wp2_with fail
      all_goals first | (exfalso; omega) | skip
      go_ret
      refine ⟨⟨_, _, rfl, ?_⟩, HB.out⟩
      have := HO.out
      rw [List.take_of_length_le (by rw [HN.out]; exact Nat.le_refl _)] at this
      exact this
end
end Go.Proofs.Ytjdoemmfemogmaa.Ar

namespace Go.Proofs.Ytjdoemmfemogmaa.Ar
set_option maxRecDepth 100000
open Go.RowKit

/-- an empty slice is appended -/
theorem app_none {P : Program} (W : World) (t ty e : TypeId) (i : TypeInfo) (ht : P.underlying t = some (.slice e)) (hi : P.info? e = some i) (A B : Option Addr) (n c m d : Nat) (hn : n ≤ c) (hm : m = 0) :
    (Builtin.append_ #[t, t] ty #[.slice A n c, .slice B m d]).run P W = .ok (.slice A n c) W := by
  subst hm
  cases A <;> cases B <;> simp [Builtin.append_, run_underlying ht, sizeOf, typeInfo, hi, hn, Builtin.firstCells, Builtin.lenOf, loadCells, storeCells, loadCellsFrom]
theorem wpList_none {P : Program} {w : World} {ops : Array Oper} {rest : List Oper} {o : Oper} {a : Act} {Q : Exit → Act → World → Prop} (hgd : o.guard = none) (s x : Operand) (t : TypeId)
    (ho : o.op = .call { callee := .builtin .append, args := #[s, x], argTypes := #[t, t] }) (e : TypeId) (i : TypeInfo) (ht : P.underlying t = some (.slice e)) (hi : P.info? e = some i) (A B : Option Addr) (n c m d : Nat)
    (hs : a.eval s = .slice A n c) (hx : a.eval x = .slice B m d) (hn : n ≤ c) (hm : m = 0) (h : wpList P ops Q rest (a.put o.dst (.slice A n c)) w) : wpList P ops Q (o :: rest) a w :=
  wpList_plain hgd fun K hK => by
    have hr := app_none (P := P) w t o.type e i ht hi A B n c m d hn hm
    unfold Oper.wp execOp
    simp only [ho, resolve, invoke, builtin, Sem.run_bind, Sem.run_pure, Result.andThen_ok, List.map_toArray, List.map_cons, List.map_nil, hs, hx, hr]
    exact hK _ _ h
end Go.Proofs.Ytjdoemmfemogmaa.Ar

namespace Go.Proofs.Ytjdoemmfemogmaa.Ar
set_option maxRecDepth 100000
open Go.RowKit Go.Proofs.Ytjdoemmfemogmaa.Wire

theorem infoEn : (Try.prog.info? 111).map (fun i => (i.zero, i.size, i.bytes)) = some (some (.agg #[.int .i64 0, .bool false, .int .i64 0, .int .i64 0, .int .i64 0, .slice none 0 0, .int .i64 0, .int .i64 0, .int .i64 0]), 9, 88) := by kernel_rfl
theorem re_one (l : List Re) : ∀ u ∈ l.flatMap Re.cells, u.oneCell' = true := by
  intro u hu
  obtain ⟨p, -, hp⟩ := List.mem_flatMap.1 hu
  unfold Re.cells at hp
  cases hv : p.v with
  | inc held sent first last => rw [hv] at hp; simp at hp; rcases hp with rfl | rfl | rfl | rfl | rfl | rfl | rfl | rfl | rfl <;> rfl
  | res mac since used => rw [hv] at hp; simp at hp; rcases hp with rfl | rfl | rfl | rfl | rfl | rfl | rfl | rfl | rfl <;> rfl
section
variable {W W' : World} {lo T : Nat} {c : Tc} {D : Option Addr} {d : Nat} {L : List Re}
theorem take_cells {g : Nat} (h : EnRow W lo (some ⟨g, 0, none⟩) d L) (i : Nat) : ∀ j u, ((L.take i).flatMap Re.cells)[j]? = some u → W.cell? ((⟨g, 0, none⟩ : Addr).add j) = some u := fun j u hu => by
  have e : L.flatMap Re.cells = (L.take i).flatMap Re.cells ++ (L.drop i).flatMap Re.cells := by rw [← List.flatMap_append, List.take_append_drop]
  exact World.ownsRow.cells h rfl j u (by rw [e, List.getElem?_append_left (List.getElem?_eq_some_iff.1 hu).1]; exact hu)
theorem drop_cells {g : Nat} (h : EnRow W lo (some ⟨g, 0, none⟩) d L) (i : Nat) (hi : i ≤ L.length) : ∀ j u, ((L.drop i).flatMap Re.cells)[j]? = some u → W.cell? ((⟨g, i * 9, none⟩ : Addr).add j) = some u := fun j u hu => by
  have e : L.flatMap Re.cells = (L.take i).flatMap Re.cells ++ (L.drop i).flatMap Re.cells := by rw [← List.flatMap_append, List.take_append_drop]
  have hlen : ((L.take i).flatMap Re.cells).length = i * 9 := by rw [encs_length 9 Re.cells Re.len, List.length_take, Nat.min_eq_left hi]
  have := World.ownsRow.cells h rfl (i * 9 + j) u (by rw [e, List.getElem?_append_right (by omega), hlen, Nat.add_sub_cancel_left]; exact hu)
  rw [Addr.add_lit] at this ⊢
  simpa using this
set_option maxHeartbeats 8000000 in
theorem without_ref (i n : Nat) (w : World) (h : EnRow w lo D d L) (hn : L.length = n) (hi : i < n) (h2 : 2 ≤ n) (hL : n ≤ 1000) :
    Calls Try.prog 64 #[.slice D n d, .int .i64 (i : Int)] w fun x w' => (∃ D' d', x = .returned (.slice D' (n - 1) d') ∧ EnRow w' w.heap.size D' d' (L.eraseIdx i)) ∧ Below w.heap.size w w' := by
  obtain ⟨i0, hi0, hz0, hz1, hz2⟩ := info_parts infoEn
  have HI := Lib.hid hi0; have HZ0 := Lib.hid hz0; have HZ1 := Lib.hid hz1; have HZ2 := Lib.hid hz2
  clear hi0 hz0 hz1 hz2
  obtain ⟨g, rfl, hgl⟩ := h.addr (by omega)
  have hcap := h.cap
  rw [hn] at hcap
  have HR := Lib.hid h; have HN := Lib.hid hn
  have hlt := (h.bk rfl).2
  dsimp only at hlt
  have htl : (L.take i).length = i := by rw [List.length_take, hn]; omega
  have hdl : (L.drop (i + 1)).length = n - (i + 1) := by rw [List.length_drop, hn]
  have he : L.take i ++ L.drop (i + 1) = L.eraseIdx i := (List.eraseIdx_eq_take_drop_succ ..).symm
  have HE := Lib.hid he; have HTL := Lib.hid htl; have HDL := Lib.hid hdl
  clear h hn htl hdl he
  have j0 : (0 : Int) ≤ (i : Int) := by omega
  have j1 : (i : Int) ≤ (n : Int) := by omega
  have j2 : (i : Int) ≤ (d : Int) := by omega
  obtain ⟨k1, hk1⟩ : ∃ k1, i + 1 = k1 := ⟨_, rfl⟩
  rw [hk1] at HE HDL
  have hw : IntKind.i64.wrap ((i : Int) + 1) = (k1 : Int) := (IntWalk.i64_in _ (by omega)).trans (by omega)
  have HK1 := Lib.hid hk1
  have m0 : (0 : Int) ≤ (k1 : Int) := by omega
  have m1 : (k1 : Int) ≤ (n : Int) := by omega
  have m2 : (k1 : Int) ≤ (d : Int) := by omega
  have m3 : k1 ≤ n := by omega
  have m4 : k1 ≤ d := by omega
  by_cases h0 : i = 0
  · have m5 : ¬ d = k1 := by omega
    have m6 : 0 < n - k1 := by omega
    have HH0 := Lib.hid h0
    clear hk1 h0
    go_enter Try.func64, Try.ntmps64
    go_wp2_with (first | (at_builtin; refine wpList_none rfl (.tmp 6) (.tmp 9) 107 rfl 111 i0 Try.underlying107 HI.out none (some ⟨g, 0, none⟩) 0 0 i d rfl rfl (Nat.le_refl _) HH0.out ?_) | (at_builtin; refine wpList_append_lies _ rfl (.tmp 11) (.tmp 15) 107 rfl w.heap.size 111 i0 (.agg #[.int .i64 0, .bool false, .int .i64 0, .int .i64 0, .int .i64 0, .slice none 0 0, .int .i64 0, .int .i64 0, .int .i64 0]) 9 88 Try.underlying107 HI.out HZ0.out HZ1.out HZ2.out rfl (by decide) (.slice none 0 0) 0 [] rfl ⟨rfl, .inl ⟨rfl, rfl⟩⟩ ⟨g, k1 * 9, none⟩ (n - k1) (d - k1) ((L.drop k1).flatMap Re.cells) rfl (by rw [encs_length 9 Re.cells Re.len, HDL.out]) (drop_cells HR.out k1 (by rw [HN.out]; omega)) (re_one _) (by omega) (by unfold maxLen; omega) (by omega) (Nat.le_refl _) w.heap.size rfl ?_; intro g3 cap3 w8 hown3 hgrow3 hat3 hlt3))
    all_goals first | (exfalso; omega) | skip
    go_ret
    have hnil : L.take i = [] := by rw [HH0.out]; rfl
    refine ⟨⟨some ⟨g3, 0, none⟩, cap3, ?_, ?_⟩, (Below.refl w.heap.size w).grown hgrow3 (Nat.le_refl _) (fun q e => by simp [Value.ownBlock] at e)⟩
    · have e : 0 + (n - k1) = n - 1 := by have := HK1.out; have := HH0.out; omega
      first | rw [← e]; rfl | (rw [← e]; simp)
    · rw [← HE.out, hnil, List.nil_append]
      unfold EnRow SRow
      rw [HDL.out]
      simpa using hown3
  · by_cases hl : k1 = n
    · have hw2 : IntKind.i64.wrap ((i : Int) + 1) = (n : Int) := by rw [← hl]; exact hw
      have M7 : Hid (n - n = 0) := Lib.hid (Nat.sub_self n)
      have HKN := Lib.hid hl
      rw [hl] at HE
      have hnd : n ≤ d := by omega
      clear hk1 hw hl m0 m1 m2 m3 m4 HDL
      have hor : d = n ∨ ¬ d = n := by omega
      rcases hor with rfl | hd
      · go_enter Try.func64, Try.ntmps64
        go_upto_region 3 with (at_builtin; refine wpList_append_lies _ rfl (.tmp 6) (.tmp 9) 107 rfl w.heap.size 111 i0 (.agg #[.int .i64 0, .bool false, .int .i64 0, .int .i64 0, .int .i64 0, .slice none 0 0, .int .i64 0, .int .i64 0, .int .i64 0]) 9 88 Try.underlying107 HI.out HZ0.out HZ1.out HZ2.out rfl (by decide) (.slice none 0 0) 0 [] rfl ⟨rfl, .inl ⟨rfl, rfl⟩⟩ ⟨g, 0, none⟩ i d ((L.take i).flatMap Re.cells) rfl (by rw [encs_length 9 Re.cells Re.len, HTL.out]) (take_cells HR.out i) (re_one _) (by omega) (by unfold maxLen; omega) (by omega) (Nat.le_refl _) w.heap.size rfl ?_; intro g2 cap w7 hown hgrow hat hlt2)
        have hb7 : Below w.heap.size w w7 := (Below.refl w.heap.size w).grown hgrow (Nat.le_refl _) (fun q e => by simp [Value.ownBlock] at e)
        have HB7 := Lib.hid hb7
        have HOWN := Lib.hid (show EnRow w7 w.heap.size (some ⟨g2, 0, none⟩) cap (L.take i) by unfold EnRow SRow; rw [HTL.out]; simpa using hown)
        have hcp := HOWN.out.cap
        rw [HTL.out] at hcp
        have HCAP := Lib.hid hcp
        clear hown hgrow hb7 hcp
        have ez : 0 + i = i := Nat.zero_add i
        go_wp2_with (at_builtin; refine wpList_none rfl (.tmp 11) (.tmp 15) 107 rfl 111 i0 Try.underlying107 HI.out (some ⟨g2, 0, none⟩) _ i cap 0 _ rfl rfl HCAP.out rfl ?_)
        all_goals first | (exfalso; omega) | skip
        go_ret
        refine ⟨⟨some ⟨g2, 0, none⟩, cap, ?_, ?_⟩, HB7.out⟩
        · have e : i = d - 1 := by have := HK1.out; have := HKN.out; omega
          rw [← e]; rfl
        · rw [← HE.out, List.drop_of_length_le (by rw [HN.out]; exact Nat.le_refl _), List.append_nil]
          exact HOWN.out
      · go_enter Try.func64, Try.ntmps64
        go_upto_region 3 with (at_builtin; refine wpList_append_lies _ rfl (.tmp 6) (.tmp 9) 107 rfl w.heap.size 111 i0 (.agg #[.int .i64 0, .bool false, .int .i64 0, .int .i64 0, .int .i64 0, .slice none 0 0, .int .i64 0, .int .i64 0, .int .i64 0]) 9 88 Try.underlying107 HI.out HZ0.out HZ1.out HZ2.out rfl (by decide) (.slice none 0 0) 0 [] rfl ⟨rfl, .inl ⟨rfl, rfl⟩⟩ ⟨g, 0, none⟩ i d ((L.take i).flatMap Re.cells) rfl (by rw [encs_length 9 Re.cells Re.len, HTL.out]) (take_cells HR.out i) (re_one _) (by omega) (by unfold maxLen; omega) (by omega) (Nat.le_refl _) w.heap.size rfl ?_; intro g2 cap w7 hown hgrow hat hlt2)
        have hb7 : Below w.heap.size w w7 := (Below.refl w.heap.size w).grown hgrow (Nat.le_refl _) (fun q e => by simp [Value.ownBlock] at e)
        have HB7 := Lib.hid hb7
        have HOWN := Lib.hid (show EnRow w7 w.heap.size (some ⟨g2, 0, none⟩) cap (L.take i) by unfold EnRow SRow; rw [HTL.out]; simpa using hown)
        have hcp := HOWN.out.cap
        rw [HTL.out] at hcp
        have HCAP := Lib.hid hcp
        clear hown hgrow hb7 hcp
        have ez : 0 + i = i := Nat.zero_add i
        go_wp2_with (at_builtin; refine wpList_none rfl (.tmp 11) (.tmp 15) 107 rfl 111 i0 Try.underlying107 HI.out (some ⟨g2, 0, none⟩) _ i cap 0 _ rfl rfl HCAP.out rfl ?_)
        all_goals first | (exfalso; omega) | skip
        go_ret
        refine ⟨⟨some ⟨g2, 0, none⟩, cap, ?_, ?_⟩, HB7.out⟩
        · have e : i = n - 1 := by have := HK1.out; have := HKN.out; omega
          rw [← e]; rfl
        · rw [← HE.out, List.drop_of_length_le (by rw [HN.out]; exact Nat.le_refl _), List.append_nil]
          exact HOWN.out
    · have m5 : ¬ d = k1 := by omega
      have m6 : 0 < n - k1 := by omega
      clear hk1
      go_enter Try.func64, Try.ntmps64
      go_upto_region 3 with (at_builtin; refine wpList_append_lies _ rfl (.tmp 6) (.tmp 9) 107 rfl w.heap.size 111 i0 (.agg #[.int .i64 0, .bool false, .int .i64 0, .int .i64 0, .int .i64 0, .slice none 0 0, .int .i64 0, .int .i64 0, .int .i64 0]) 9 88 Try.underlying107 HI.out HZ0.out HZ1.out HZ2.out rfl (by decide) (.slice none 0 0) 0 [] rfl ⟨rfl, .inl ⟨rfl, rfl⟩⟩ ⟨g, 0, none⟩ i d ((L.take i).flatMap Re.cells) rfl (by rw [encs_length 9 Re.cells Re.len, HTL.out]) (take_cells HR.out i) (re_one _) (by omega) (by unfold maxLen; omega) (by omega) (Nat.le_refl _) w.heap.size rfl ?_; intro g2 cap w7 hown hgrow hat hlt2)
      have hb7 : Below w.heap.size w w7 := (Below.refl w.heap.size w).grown hgrow (Nat.le_refl _) (fun q e => by simp [Value.ownBlock] at e)
      have HB7 := Lib.hid hb7
      have hz7 := hb7.size
      have HOWN := Lib.hid (show w7.ownsRow w.heap.size 111 9 (.slice (some ⟨g2, 0, none⟩) i cap) i ((L.take i).flatMap Re.cells) by simpa using hown)
      have HR7 := Lib.hid (HR.out.below hb7)
      clear hown hgrow hb7
      have ez : 0 + i = i := Nat.zero_add i
      go_wp2_with (at_builtin; refine wpList_append_lies _ rfl (.tmp 11) (.tmp 15) 107 rfl w.heap.size 111 i0 (.agg #[.int .i64 0, .bool false, .int .i64 0, .int .i64 0, .int .i64 0, .slice none 0 0, .int .i64 0, .int .i64 0, .int .i64 0]) 9 88 Try.underlying107 HI.out HZ0.out HZ1.out HZ2.out rfl (by decide) (.slice (some ⟨g2, 0, none⟩) i cap) i _ rfl HOWN.out ⟨g, k1 * 9, none⟩ (n - k1) (d - k1) ((L.drop k1).flatMap Re.cells) rfl (by rw [encs_length 9 Re.cells Re.len, HDL.out]) (drop_cells HR7.out k1 (by rw [HN.out]; omega)) (re_one _) (by omega) (by unfold maxLen; omega) (by omega) hz7 w7.heap.size rfl ?_; intro g3 cap3 w8 hown3 hgrow3 hat3 hlt3)
      all_goals first | (exfalso; omega) | skip
      go_ret
      have hg2 : g2 = w.heap.size := by
        rcases hat with e | e
        · simp [Value.ownBlock] at e
        · exact e
      refine ⟨⟨some ⟨g3, 0, none⟩, cap3, ?_, ?_⟩, HB7.out.grown hgrow3 hz7 (fun q e => by simp [Value.ownBlock] at e; omega)⟩
      · have e : i + (n - k1) = n - 1 := by have := HK1.out; omega
        rw [← e]; rfl
      · rw [← HE.out]
        unfold EnRow SRow
        rw [List.length_append, HTL.out, HDL.out, List.flatMap_append]
        exact hown3
end
end Go.Proofs.Ytjdoemmfemogmaa.Ar

namespace Go.Proofs.Ytjdoemmfemogmaa.Ar
set_option maxRecDepth 100000
open Go.RowKit Go.Proofs.Ytjdoemmfemogmaa.Wire

theorem Re.nine (e : Re) : ∃ u0 u1 u2 u3 u4 u5 u6 u7 u8 : Value, e.cells = [u0, u1, u2, u3, u4, u5, u6, u7, u8] := by
  unfold Re.cells
  cases e.v with
  | inc held sent first last => exact ⟨_, _, _, _, _, _, _, _, _, rfl⟩
  | res mac since used => exact ⟨_, _, _, _, _, _, _, _, _, rfl⟩
section
variable {W W' : World} {lo T : Nat} {c : Tc} {D : Option Addr} {d : Nat} {L : List Re}
theorem RTab.nine (h : RTab W lo T c D d L) {g : Nat} (hD : D = some ⟨g, 0, none⟩) {i : Nat} {e : Re} (hi : L[i]? = some e) {u0 u1 u2 u3 u4 u5 u6 u7 u8 : Value} (he : e.cells = [u0, u1, u2, u3, u4, u5, u6, u7, u8]) :
    W.cell? ⟨g, i * 9, none⟩ = some u0 ∧ W.cell? ⟨g, i * 9 + 1, none⟩ = some u1 ∧ W.cell? ⟨g, i * 9 + 2, none⟩ = some u2 ∧ W.cell? ⟨g, i * 9 + 3, none⟩ = some u3 ∧ W.cell? ⟨g, i * 9 + 4, none⟩ = some u4 ∧ W.cell? ⟨g, i * 9 + 5, none⟩ = some u5 ∧ W.cell? ⟨g, i * 9 + 6, none⟩ = some u6 ∧ W.cell? ⟨g, i * 9 + 7, none⟩ = some u7 ∧ W.cell? ⟨g, i * 9 + 8, none⟩ = some u8 := by
  have f := fun (r : Nat) (u : Value) (hr : r < 9) (hu : e.cells[r]? = some u) => h.at_ hD hi hr hu
  exact ⟨f 0 u0 (by omega) (by rw [he]; rfl), f 1 u1 (by omega) (by rw [he]; rfl), f 2 u2 (by omega) (by rw [he]; rfl), f 3 u3 (by omega) (by rw [he]; rfl), f 4 u4 (by omega) (by rw [he]; rfl), f 5 u5 (by omega) (by rw [he]; rfl), f 6 u6 (by omega) (by rw [he]; rfl), f 7 u7 (by omega) (by rw [he]; rfl), f 8 u8 (by omega) (by rw [he]; rfl)⟩
/-- nothing is done while there is room -/
theorem room_has (w : World) (h : RTab w lo T c D d L) (hL : L.length < 16) : Calls Try.prog 55 #[.pointer (some ⟨T, 0, none⟩)] w fun x w' => (∃ v, x = .returned v) ∧ w = w' := by
  obtain ⟨-, -, t2, -⟩ := cellsR h
  obtain ⟨n, hn⟩ : ∃ n, L.length = n := ⟨_, rfl⟩
  rw [hn] at t2 hL
  have d1 : decide ((n : Int) < 16) = true := decide_eq_true (by omega)
  have q2 : n < 16 := hL
  clear h hn
  go_enter Try.func55, Try.ntmps55
  go_wp2_with fail
  all_goals first | (exfalso; omega) | skip

  refine bodyPost_ret (results_none rfl _ _ _) rfl ?_
  exact ⟨⟨_, rfl⟩, rfl⟩
/-- the best of a list so far, by its place -/
def BestAt (A : AL) (i k : Nat) : Prop := ∃ x R, A = x :: R ∧ k < A.length ∧ A[k]? = some ((R.take (i - 1)).foldl pickB x)
theorem BestAt.step {A : AL} {i k : Nat} (h : BestAt A i k) (h1 : 1 ≤ i) {y b : Int × Ev} (hy : A[i]? = some y) (hb : A[k]? = some b) : BestAt A (i + 1) (if aheadB y b = true then i else k) := by
  obtain ⟨x, R, rfl, hk, hf⟩ := h
  have hR : R[i - 1]? = some y := by
    obtain ⟨j, rfl⟩ : ∃ j, i = j + 1 := ⟨i - 1, by omega⟩
    simpa using hy
  have ht : R.take (i + 1 - 1) = R.take (i - 1) ++ [y] := by
    rw [show i + 1 - 1 = (i - 1) + 1 by omega, List.take_add_one, hR]; rfl
  rw [hb] at hf
  have hf : b = (R.take (i - 1)).foldl pickB x := by injection hf
  have hil := (List.getElem?_eq_some_iff.1 hy).1
  refine ⟨x, R, rfl, ?_, ?_⟩
  · split
    · exact hil
    · exact hk
  · rw [ht, List.foldl_append, ← hf]
    show _ = some (pickB b y)
    unfold pickB
    split
    · exact hy
    · exact hb
set_option maxHeartbeats 8000000 in
theorem room_full (w : World) (h : RTab w lo T c D d L) (hL : L.length = 16) : Calls Try.prog 55 #[.pointer (some ⟨T, 0, none⟩)] w fun x w' => (∃ v, x = .returned v) ∧ ∃ k D' d', BestAt (absR L) 16 k ∧ RTab w' lo T c D' d' (L.eraseIdx k) ∧ Chg (fun q => q = T) w w' ∧ (∀ q, ROwn T D' (L.eraseIdx k) q → ROwn T D L q ∨ w.heap.size ≤ q) := by
  obtain ⟨-, -, t2, -⟩ := cellsR h
  obtain ⟨g, rfl, hgl⟩ := h.row.addr (by omega)
  have HT := Lib.hid h; have HL := Lib.hid hL
  rw [hL] at t2
  clear h hL
  go_enter Try.func55, Try.ntmps55
  go_wp2_with fail
  go_loopw [2, 3] (fun kv iv wr => ∃ (k i : Nat), 1 ≤ i ∧ i ≤ 16 ∧ kv = .int .i64 (k : Int) ∧ iv = .int .i64 (i : Int) ∧ k < 16 ∧ BestAt (absR L) i k ∧ Below w.heap.size w wr) (fun _ iv _ => 16 - (Go.RowKit.intOf iv).toNat)
  case atStart =>
    refine ⟨0, 1, by omega, by omega, rfl, rfl, by omega, ?_, Below.refl _ _⟩
    have hn : (absR L).length = 16 := by unfold absR; rw [List.length_map, HL.out]
    cases hA : absR L with
    | nil => rw [hA] at hn; simp at hn
    | cons x R => exact ⟨x, R, rfl, by simp, rfl⟩
  case round =>
    obtain ⟨k, i, hi1, hi16, rfl, rfl, hk, hbest, hb⟩ := hrel
    have HBE := Lib.hid hbest; have HB := Lib.hid hb
    clear hbest hb
    obtain ⟨wx, rfl⟩ : ∃ wo : World, wo = wr := ⟨_, rfl⟩
    have HT2 := Lib.hid (HT.out.below HB.out)
    obtain ⟨-, -, t2', -⟩ := cellsR HT2.out
    rw [HL.out] at t2'
    by_cases hlt : i < 16
    · have d1 : decide ((i : Int) < 16) = true := decide_eq_true (by omega)
      have i0 : (0 : Int) ≤ (i : Int) := by omega
      have i1 : (i : Int) < 16 := by omega
      have k0 : (0 : Int) ≤ (k : Int) := by omega
      have k1 : (k : Int) < 16 := by omega
      obtain ⟨e, he⟩ : ∃ e, L[i]? = some e := ⟨_, List.getElem?_eq_getElem (by rw [HL.out]; exact hlt)⟩
      obtain ⟨b, hbk⟩ : ∃ b, L[k]? = some b := ⟨_, List.getElem?_eq_getElem (by rw [HL.out]; exact hk)⟩
      obtain ⟨u0, u1, u2, u3, u4, u5, u6, u7, u8, hu⟩ := e.nine
      obtain ⟨v0, v1, v2, v3, v4, v5, v6, v7, v8, hv⟩ := b.nine
      have HX := Lib.hid (HT2.out.nine rfl he hu); have HY := Lib.hid (HT2.out.nine rfl hbk hv)
      have HAH := Lib.hid (fun W => ahead_ref e b W)
      unfold Re.agg at HAH
      rw [hu, hv] at HAH
      have HE := Lib.hid he; have HBK := Lib.hid hbk
      obtain ⟨r, hr⟩ : ∃ r, aheadB (e.k, e.v) (b.k, b.v) = r := ⟨_, rfl⟩
      rw [hr] at HAH
      have HRR := Lib.hid hr
      have HU := Lib.hid hu; have HV := Lib.hid hv
      have hAi : (absR L)[i]? = some (e.k, e.v) := by unfold absR; rw [List.getElem?_map, he]; rfl
      have hAk : (absR L)[k]? = some (b.k, b.v) := by unfold absR; rw [List.getElem?_map, hbk]; rfl
      have hstep := HBE.out.step hi1 hAi hAk
      rw [hr] at hstep
      have HST := Lib.hid hstep
      have HS0 : Hid ((fun w' : World => w'.cell? ⟨T, 2, none⟩ = some (.slice (some ⟨g, 0, none⟩) 16 d) ∧ (w'.cell? ⟨g, i * 9, none⟩ = some u0 ∧ w'.cell? ⟨g, i * 9 + 1, none⟩ = some u1 ∧ w'.cell? ⟨g, i * 9 + 2, none⟩ = some u2 ∧ w'.cell? ⟨g, i * 9 + 3, none⟩ = some u3 ∧ w'.cell? ⟨g, i * 9 + 4, none⟩ = some u4 ∧ w'.cell? ⟨g, i * 9 + 5, none⟩ = some u5 ∧ w'.cell? ⟨g, i * 9 + 6, none⟩ = some u6 ∧ w'.cell? ⟨g, i * 9 + 7, none⟩ = some u7 ∧ w'.cell? ⟨g, i * 9 + 8, none⟩ = some u8) ∧ (w'.cell? ⟨g, k * 9, none⟩ = some v0 ∧ w'.cell? ⟨g, k * 9 + 1, none⟩ = some v1 ∧ w'.cell? ⟨g, k * 9 + 2, none⟩ = some v2 ∧ w'.cell? ⟨g, k * 9 + 3, none⟩ = some v3 ∧ w'.cell? ⟨g, k * 9 + 4, none⟩ = some v4 ∧ w'.cell? ⟨g, k * 9 + 5, none⟩ = some v5 ∧ w'.cell? ⟨g, k * 9 + 6, none⟩ = some v6 ∧ w'.cell? ⟨g, k * 9 + 7, none⟩ = some v7 ∧ w'.cell? ⟨g, k * 9 + 8, none⟩ = some v8)) wx.drew) := Lib.hid ⟨t2', HX.out, HY.out⟩
      clear he hbk hu hv hr hAi hAk hstep
      go_upto_region 5 with fail
      go_region_held3 (fun w' => w'.cell? ⟨T, 2, none⟩ = some (.slice (some ⟨g, 0, none⟩) 16 d) ∧ (w'.cell? ⟨g, i * 9, none⟩ = some u0 ∧ w'.cell? ⟨g, i * 9 + 1, none⟩ = some u1 ∧ w'.cell? ⟨g, i * 9 + 2, none⟩ = some u2 ∧ w'.cell? ⟨g, i * 9 + 3, none⟩ = some u3 ∧ w'.cell? ⟨g, i * 9 + 4, none⟩ = some u4 ∧ w'.cell? ⟨g, i * 9 + 5, none⟩ = some u5 ∧ w'.cell? ⟨g, i * 9 + 6, none⟩ = some u6 ∧ w'.cell? ⟨g, i * 9 + 7, none⟩ = some u7 ∧ w'.cell? ⟨g, i * 9 + 8, none⟩ = some u8) ∧ (w'.cell? ⟨g, k * 9, none⟩ = some v0 ∧ w'.cell? ⟨g, k * 9 + 1, none⟩ = some v1 ∧ w'.cell? ⟨g, k * 9 + 2, none⟩ = some v2 ∧ w'.cell? ⟨g, k * 9 + 3, none⟩ = some v3 ∧ w'.cell? ⟨g, k * 9 + 4, none⟩ = some v4 ∧ w'.cell? ⟨g, k * 9 + 5, none⟩ = some v5 ∧ w'.cell? ⟨g, k * 9 + 6, none⟩ = some v6 ∧ w'.cell? ⟨g, k * 9 + 7, none⟩ = some v7 ∧ w'.cell? ⟨g, k * 9 + 8, none⟩ = some v8)) ((first | with_reducible exact HS0.out | with_reducible exact HS1.out))
        ((go_simp; go_at_call 63; refine (HAH.out _).mono ?_; rintro e9 w5 ⟨rfl, hb5⟩; have HB5 := Lib.hid (show Below wx.heap.size wx w5 from ⟨hb5.os, hb5.tape, hb5.output, hb5.size, hb5.block⟩); clear hb5; have HS1 : Hid ((fun w' : World => w'.cell? ⟨T, 2, none⟩ = some (.slice (some ⟨g, 0, none⟩) 16 d) ∧ (w'.cell? ⟨g, i * 9, none⟩ = some u0 ∧ w'.cell? ⟨g, i * 9 + 1, none⟩ = some u1 ∧ w'.cell? ⟨g, i * 9 + 2, none⟩ = some u2 ∧ w'.cell? ⟨g, i * 9 + 3, none⟩ = some u3 ∧ w'.cell? ⟨g, i * 9 + 4, none⟩ = some u4 ∧ w'.cell? ⟨g, i * 9 + 5, none⟩ = some u5 ∧ w'.cell? ⟨g, i * 9 + 6, none⟩ = some u6 ∧ w'.cell? ⟨g, i * 9 + 7, none⟩ = some u7 ∧ w'.cell? ⟨g, i * 9 + 8, none⟩ = some u8) ∧ (w'.cell? ⟨g, k * 9, none⟩ = some v0 ∧ w'.cell? ⟨g, k * 9 + 1, none⟩ = some v1 ∧ w'.cell? ⟨g, k * 9 + 2, none⟩ = some v2 ∧ w'.cell? ⟨g, k * 9 + 3, none⟩ = some v3 ∧ w'.cell? ⟨g, k * 9 + 4, none⟩ = some v4 ∧ w'.cell? ⟨g, k * 9 + 5, none⟩ = some v5 ∧ w'.cell? ⟨g, k * 9 + 6, none⟩ = some v6 ∧ w'.cell? ⟨g, k * 9 + 7, none⟩ = some v7 ∧ w'.cell? ⟨g, k * 9 + 8, none⟩ = some v8)) w5) := Lib.hid ⟨bcell HB5.out t2', RTab.nine (HT2.out.below HB5.out) rfl HE.out HU.out, RTab.nine (HT2.out.below HB5.out) rfl HBK.out HV.out⟩))
      cases r with
      | true =>
        go_wp2_with fail
        all_goals first | (exfalso; omega) | skip
        exact ⟨⟨i, i + 1, by omega, by omega, rfl, by go_num, hlt, HST.out, below_call HB.out HB5.out⟩, by simp [Go.RowKit.intOf]; omega⟩
      | false =>
        go_wp2_with fail
        all_goals first | (exfalso; omega) | skip
        exact ⟨⟨k, i + 1, by omega, by omega, rfl, by go_num, hk, HST.out, below_call HB.out HB5.out⟩, by simp [Go.RowKit.intOf]; omega⟩
    · obtain rfl : i = 16 := by omega
      have d1 : decide (((16 : Nat) : Int) < 16) = false := by decide
      have hrow2 := HT2.out.row
      go_wp2_with fail
      all_goals first | (exfalso; omega) | skip
      refine (without_ref k 16 wx hrow2 HL.out hk (by omega) (by omega)).mono ?_
      rintro x9 w5 ⟨⟨D', d', rfl, hrow⟩, hb5⟩
      have HRW := Lib.hid hrow
      have HT5 := Lib.hid (HT2.out.below hb5)
      have HB5 := Lib.hid hb5
      have q5 := (cell_of_block (k := 2) HT5.out.tab rfl).1; have z5 := (cell_of_block (k := 2) HT5.out.tab rfl).2
      clear hrow hb5 hrow2
      go_wp2_with fail
      all_goals first | (exfalso; omega) | skip
      have hTl := HT2.out.lt (.inl rfl : ROwn T (some ⟨g, 0, none⟩) L T)
      have hlen : (L.eraseIdx k).length = 15 := by rw [List.length_eraseIdx, HL.out, if_pos hk]
      have hDT : ∀ q, BK D' q → wx.heap.size ≤ q := fun q hq => (HRW.out.bk' hq).1
      have hsub : ∀ e ∈ L.eraseIdx k, e ∈ L := fun e he => (List.eraseIdx_sublist _ _).subset he
      have hwx := HB.out.size
      first | refine bodyPost_ret (results_none rfl _ _ _) rfl ?_ | refine bodyPost_end (results_none rfl _ _ _) rfl ?_
      refine ⟨⟨_, rfl⟩, k, D', d', HBE.out, ⟨?_, ?_, fun e he => ?_, HT.out.lo, fun q hq => by have := hDT q hq; omega, fun e he q hq => ?_⟩, ?_, fun q hq => ?_⟩
      · exact cells_eq (block_setCell (k := 2) HT5.out.tab) (by simp [hlen])
      · exact ((HRW.out.mono (by omega)).kept (fun a ha => Below.heap_setCell _ _ _ _ (by have := hDT a.block ⟨a, ha, rfl⟩; show a.block ≠ T; omega)))
      · exact Re.ok_kept (HT5.out.ok e (hsub e he)) (fun q hq => Below.heap_setCell _ _ _ _ (by exact (HT.out.ne2 e (hsub e he) q hq).1))
      · exact ⟨(HT.out.ne2 e (hsub e he) q hq).1, fun r => by have := hDT q r; have := (HT2.out.lt (.inr (.inr ⟨e, hsub e he, hq⟩))).2; omega⟩
      · exact Chg.setCell (S := fun q => q = T) (p := ⟨T, 2, none⟩) (Chg.of_below (below_call HB.out HB5.out)) (.inl rfl) _
      · rcases hq with r | r | ⟨e, he, r⟩
        · exact .inl (.inl r)
        · exact .inr (by have := hDT q r; omega)
        · exact .inl (.inr (.inr ⟨e, hsub e he, r⟩))
end
end Go.Proofs.Ytjdoemmfemogmaa.Ar

namespace Go.Proofs.Ytjdoemmfemogmaa.Ar
set_option maxRecDepth 100000
open Go.RowKit Go.Proofs.Ytjdoemmfemogmaa.Wire

theorem set_mid (P M S : List Value) {k : Nat} (hp : P.length = k) (r : Nat) (u : Value) (hr : r < M.length) : (P ++ (M ++ S)).set (k + r) u = P ++ (M.set r u ++ S) := by
  subst hp
  rw [List.set_append_right _ _ (by omega), Nat.add_sub_cancel_left, List.set_append_left _ _ hr]
theorem row_split {L : List Re} {i : Nat} {e : Re} (hi : L[i]? = some e) : L.flatMap Re.cells = (L.take i).flatMap Re.cells ++ (e.cells ++ (L.drop (i + 1)).flatMap Re.cells) ∧ ((L.take i).flatMap Re.cells).length = i * 9 ∧ ∀ e' : Re, (L.set i e').flatMap Re.cells = (L.take i).flatMap Re.cells ++ (e'.cells ++ (L.drop (i + 1)).flatMap Re.cells) := by
  have hl := (List.getElem?_eq_some_iff.1 hi).1
  have e1 : L = L.take i ++ e :: L.drop (i + 1) := by
    rw [← (List.getElem?_eq_some_iff.1 hi).2, List.getElem_cons_drop, List.take_append_drop]
  refine ⟨?_, by rw [encs_length 9 Re.cells Re.len, List.length_take, Nat.min_eq_left (by omega)], fun e' => ?_⟩
  · conv => lhs; rw [e1]
    rw [List.flatMap_append, List.flatMap_cons]
  · rw [List.set_eq_take_append_cons_drop, if_pos hl, List.flatMap_append, List.flatMap_cons]
section
variable {W W' : World} {lo T : Nat} {c : Tc} {D : Option Addr} {d : Nat} {L : List Re}
/-- one cell of an entry is set -/
theorem EnRow.set1 {g : Nat} (h : EnRow W lo (some ⟨g, 0, none⟩) d L) {i : Nat} {e e' : Re} (hi : L[i]? = some e) {r : Nat} (hr : r < 9) {u : Value} (he : e'.cells = e.cells.set r u) : EnRow (W.setCell ⟨g, i * 9 + r, none⟩ u) lo (some ⟨g, 0, none⟩) d (L.set i e') := by
  obtain ⟨h1, h2, h3⟩ := row_split hi
  have := (World.ownsRow.stored h (i * 9 + r) u).1
  unfold EnRow SRow
  rw [List.length_set, h3 e', he, ← set_mid _ _ _ h2 r u (by rw [e.len]; exact hr), ← h1]
  exact this
/-- an entry is set anew, cell by cell -/
theorem EnRow.set9 {g : Nat} (h : EnRow W lo (some ⟨g, 0, none⟩) d L) {i : Nat} {e e' : Re} (hi : L[i]? = some e) {u0 u1 u2 u3 u4 u5 u6 u7 u8 : Value} (he : e'.cells = [u0, u1, u2, u3, u4, u5, u6, u7, u8]) :
    EnRow (((((((((W.setCell ⟨g, i * 9, none⟩ u0).setCell ⟨g, i * 9 + 1, none⟩ u1).setCell ⟨g, i * 9 + 2, none⟩ u2).setCell ⟨g, i * 9 + 3, none⟩ u3).setCell ⟨g, i * 9 + 4, none⟩ u4).setCell ⟨g, i * 9 + 5, none⟩ u5).setCell ⟨g, i * 9 + 6, none⟩ u6).setCell ⟨g, i * 9 + 7, none⟩ u7).setCell ⟨g, i * 9 + 8, none⟩ u8) lo (some ⟨g, 0, none⟩) d (L.set i e') := by
  obtain ⟨h1, h2, h3⟩ := row_split hi
  obtain ⟨v0, v1, v2, v3, v4, v5, v6, v7, v8, hv⟩ := e.nine
  have q0 := (World.ownsRow.stored h (i * 9) u0).1
  have q1 := (World.ownsRow.stored q0 (i * 9 + 1) u1).1
  have q2 := (World.ownsRow.stored q1 (i * 9 + 2) u2).1
  have q3 := (World.ownsRow.stored q2 (i * 9 + 3) u3).1
  have q4 := (World.ownsRow.stored q3 (i * 9 + 4) u4).1
  have q5 := (World.ownsRow.stored q4 (i * 9 + 5) u5).1
  have q6 := (World.ownsRow.stored q5 (i * 9 + 6) u6).1
  have q7 := (World.ownsRow.stored q6 (i * 9 + 7) u7).1
  have q8 := (World.ownsRow.stored q7 (i * 9 + 8) u8).1
  rw [h1, hv] at q8
  rw [show i * 9 = i * 9 + 0 from rfl] at q8
  rw [set_mid _ _ _ h2 0 u0 (by simp), Nat.add_zero, set_mid _ _ _ h2 1 u1 (by simp), set_mid _ _ _ h2 2 u2 (by simp), set_mid _ _ _ h2 3 u3 (by simp), set_mid _ _ _ h2 4 u4 (by simp), set_mid _ _ _ h2 5 u5 (by simp), set_mid _ _ _ h2 6 u6 (by simp), set_mid _ _ _ h2 7 u7 (by simp), set_mid _ _ _ h2 8 u8 (by simp)] at q8
  unfold EnRow SRow
  rw [List.length_set, h3 e', he]
  exact q8
theorem set9_chg (W : World) (g k : Nat) (u0 u1 u2 u3 u4 u5 u6 u7 u8 : Value) : Chg (fun q => q = g) W (((((((((W.setCell ⟨g, k, none⟩ u0).setCell ⟨g, k + 1, none⟩ u1).setCell ⟨g, k + 2, none⟩ u2).setCell ⟨g, k + 3, none⟩ u3).setCell ⟨g, k + 4, none⟩ u4).setCell ⟨g, k + 5, none⟩ u5).setCell ⟨g, k + 6, none⟩ u6).setCell ⟨g, k + 7, none⟩ u7).setCell ⟨g, k + 8, none⟩ u8) := by
  have q0 := Chg.setCell (p := ⟨g, k, none⟩) (Chg.refl (fun q => q = g) W) (.inl rfl) u0
  have q1 := Chg.setCell (p := ⟨g, k + 1, none⟩) q0 (.inl rfl) u1
  have q2 := Chg.setCell (p := ⟨g, k + 2, none⟩) q1 (.inl rfl) u2
  have q3 := Chg.setCell (p := ⟨g, k + 3, none⟩) q2 (.inl rfl) u3
  have q4 := Chg.setCell (p := ⟨g, k + 4, none⟩) q3 (.inl rfl) u4
  have q5 := Chg.setCell (p := ⟨g, k + 5, none⟩) q4 (.inl rfl) u5
  have q6 := Chg.setCell (p := ⟨g, k + 6, none⟩) q5 (.inl rfl) u6
  have q7 := Chg.setCell (p := ⟨g, k + 7, none⟩) q6 (.inl rfl) u7
  exact Chg.setCell (p := ⟨g, k + 8, none⟩) q7 (.inl rfl) u8
/-- an entry is set anew -/
theorem RTab.put (h : RTab W lo T c D d L) {g : Nat} (hD : D = some ⟨g, 0, none⟩) {i : Nat} {e e' : Re} (_ : L[i]? = some e) (hr : EnRow W' lo D d (L.set i e')) (hc : ∀ q, q ≠ g → q < W.heap.size → W'.heap[q]? = W.heap[q]?) (hok : e'.ok W' lo) (hnew : ∀ q, BK e'.A q → q ≠ T ∧ q ≠ g) : RTab W' lo T c D d (L.set i e') := by
  subst hD
  have hg : ∀ q, BK (some (⟨g, 0, none⟩ : Addr)) q → q = g := fun q ⟨a, e, e2⟩ => by cases e; exact e2.symm
  have hTg : T ≠ g := fun e => h.ne1 g ⟨_, rfl, rfl⟩ e.symm
  refine ⟨?_, hr, fun x hx => ?_, h.lo, h.ne1, fun x hx q hq => ?_⟩
  · rw [List.length_set]
    exact (hc T hTg (h.lt (.inl rfl)).2).trans h.tab
  · rcases List.mem_or_eq_of_mem_set hx with hx | rfl
    · exact Re.ok_kept (h.ok x hx) (fun q hq => hc q (fun e => (h.ne2 x hx q hq).2 (by rw [e]; exact ⟨_, rfl, rfl⟩)) (h.lt (.inr (.inr ⟨x, hx, hq⟩))).2)
    · exact hok
  · rcases List.mem_or_eq_of_mem_set hx with hx | rfl
    · exact h.ne2 x hx q hq
    · exact ⟨(hnew q hq).1, fun r => (hnew q hq).2 (hg q r)⟩
theorem RTab.has (h : RTab W lo T c D d L) {i : Nat} {e : Re} (hi : L[i]? = some e) : ∃ g, D = some ⟨g, 0, none⟩ ∧ lo ≤ g ∧ ROwn T D L g := by
  have hl := (List.getElem?_eq_some_iff.1 hi).1
  obtain ⟨g, hg, hgl⟩ := h.row.addr (by omega)
  exact ⟨g, hg, hgl, .inr (.inl ⟨_, hg, rfl⟩)⟩
theorem ROwn.set {i : Nat} {e e' : Re} (hi : L[i]? = some e) {w : World} {q : Nat} (hq : ROwn T D (L.set i e') q) (h' : ∀ q, BK e'.A q → BK e.A q ∨ w.heap.size ≤ q) : ROwn T D L q ∨ w.heap.size ≤ q := by
  rcases hq with r | r | ⟨x, hx, r⟩
  · exact .inl (.inl r)
  · exact .inl (.inr (.inl r))
  · rcases List.mem_or_eq_of_mem_set hx with hx | rfl
    · exact .inl (.inr (.inr ⟨x, hx, r⟩))
    · exact (h' q r).imp (fun r => .inr (.inr ⟨e, List.mem_of_getElem? hi, r⟩)) id
theorem absR_set (hn : ((absR L).map (·.1)).Nodup) {i : Nat} {e e' : Re} (hi : L[i]? = some e) (hk : e'.k = e.k) : absR (L.set i e') = upd (absR L) e.k e'.v := by
  rw [absR_keys] at hn
  unfold absR upd
  apply List.ext_getElem?
  intro j
  rw [List.getElem?_map, List.getElem?_set, List.getElem?_map, List.getElem?_map]
  have hl := (List.getElem?_eq_some_iff.1 hi).1
  by_cases q : i = j
  · subst q
    rw [if_pos rfl, if_pos hl, hi]; simp [hk]
  · rw [if_neg q]
    cases hj : L[j]? with
    | none => simp
    | some y =>
      have hy : y.k ≠ e.k := fun e9 => q (by
        have h1 : (L.map (·.k))[i]? = some e.k := by simp [hi]
        have h2 : (L.map (·.k))[j]? = some e.k := by simp [hj, e9]
        obtain ⟨a1, b1⟩ := List.getElem?_eq_some_iff.1 h1
        obtain ⟨a2, b2⟩ := List.getElem?_eq_some_iff.1 h2
        rcases Nat.lt_trichotomy i j with r | r | r
        · exact absurd (b1.trans b2.symm) ((List.pairwise_iff_getElem.1 hn) i j a1 a2 r)
        · exact r
        · exact absurd (b2.trans b1.symm) ((List.pairwise_iff_getElem.1 hn) j i a2 a1 r))
      simp [hy]
end
end Go.Proofs.Ytjdoemmfemogmaa.Ar

namespace Go.Proofs.Ytjdoemmfemogmaa.Ar
set_option maxRecDepth 100000
open Go.RowKit Go.Proofs.Ytjdoemmfemogmaa.Wire

theorem Rel.recv {R A : AL} (h : Rel R A) (c : Tc) (now : Int) (X : Am) : (recvA c R now X).1 = (recvA c A now X).1 ∧ (recvA c R now X).2.2 = (recvA c A now X).2.2 ∧ Rel (recvA c R now X).2.1 (recvA c A now X).2.1 := by
  unfold recvA
  rw [h.look]
  split
  · exact ⟨rfl, rfl, h⟩
  split
  · split
    · exact ⟨rfl, rfl, h⟩
    · exact ⟨rfl, rfl, h⟩
  split
  · exact ⟨rfl, rfl, h⟩
  split
  · exact ⟨rfl, rfl, h.upd _ _⟩
  · exact ⟨rfl, rfl, h⟩
/-- the reference's eviction -/
def vicR : AL → Int
  | [] => 0
  | x :: R => (R.foldl pickB x).1
def roomR (R : AL) : AL := if 16 ≤ R.length then R.filter (fun x => decide (x.1 ≠ vicR R)) else R
def sendR (c : Tc) (R : AL) (now to_ : Int) (s : ByteArray) : AL × Int × List Am × Int :=
  if uniB to_ = false ∨ to_ = c.own ∨ 1024 < s.size then (R, 0, [], 50)
  else match look R to_ with
    | some (.res mac since _) => (upd R to_ (.res mac since now), mac, [], 0)
    | some (.inc held sent first last) => (upd R to_ (.inc (last4 (held ++ [s])) sent first last), 0, [], 0)
    | none => (rIns (roomR R) (to_, .inc [s] 1 now now), 0, [req c to_], 0)
theorem Rel.room {R A : AL} (h : Rel R A) (h0 : ∀ y ∈ A, y.1 ≠ 0) : Rel (roomR R) (roomA A) := by
  unfold roomR roomA
  rw [h.len]
  split
  · rename_i hl
    cases R with
    | nil => rw [← h.len] at hl; simp at hl
    | cons x R =>
      rw [h.vic h0]
      exact h.filter _
  · exact h
theorem Rel.send {R A : AL} (h : Rel R A) (h0 : ∀ y ∈ A, y.1 ≠ 0) (c : Tc) (now to_ : Int) (s : ByteArray) : (sendR c R now to_ s).2 = (sendF c A now to_ s).2 ∧ Rel (sendR c R now to_ s).1 (sendF c A now to_ s).1 := by
  unfold sendR sendF
  rw [h.look]
  split
  · exact ⟨rfl, h⟩
  cases hl : Ar.look A to_ with
  | none =>
    refine ⟨rfl, Rel.ins (h.room h0) (fun q => ?_)⟩
    exact look_nokey hl (((room_sub A).map _).subset q)
  | some v =>
    cases v with
    | inc held sent first last => exact ⟨rfl, h.upd _ _⟩
    | res mac since used => exact ⟨rfl, h.upd _ _⟩
theorem Rel.tickA {R A : AL} (h : Rel R A) (c : Tc) (now : Int) : (Ar.tickA c A now).2 = (R.flatMap (tickM c now), R.flatMap (tickH now)) ∧ Rel (R.filterMap (tick1 now)) (Ar.tickA c A now).1 := by
  unfold Ar.tickA
  rw [h.ord]
  exact ⟨rfl, h.tick now⟩
end Go.Proofs.Ytjdoemmfemogmaa.Ar

namespace Go.Proofs.Ytjdoemmfemogmaa.Ar
set_option maxRecDepth 100000
open Go.RowKit Go.Proofs.Ytjdoemmfemogmaa.Wire

def RecvR (lo T : Nat) (D : Option Addr) (d : Nat) (L : List Re) (w : World) (r : Tc × AL × List Am × List Hp) (e : Ending) (w' : World) : Prop :=
  ∃ (B : Option Addr) (k : Nat) (F : Option Addr) (n : Nat) (L' : List Re), e = .returned (.tuple #[.slice B r.2.2.1.length k, .slice F r.2.2.2.length n]) ∧
    MRow w' w.heap.size B k r.2.2.1 ∧ HRow w' w.heap.size F n r.2.2.2 ∧ RTab w' lo T r.1 D d L' ∧ absR L' = r.2.1 ∧ Chg (ROwn T D L) w w' ∧ ∀ q, ROwn T D L' q → ROwn T D L q ∨ w.heap.size ≤ q
section
variable {W W' : World} {lo T : Nat} {c : Tc} {D : Option Addr} {d : Nat} {L : List Re}
theorem RecvR.same {w w' : World} (h : RTab w lo T c D d L) (hb : Below w.heap.size w w') : RecvR lo T D d L w (c, absR L, [], []) (.returned (.tuple #[.slice none 0 0, .slice none 0 0])) w' :=
  ⟨none, 0, none, 0, L, rfl, SRow.nil _ _ _ _ _, SRow.nil _ _ _ _ _, h.below hb, rfl, Chg.of_below hb, fun _ hq => .inl hq⟩
theorem RecvR.told {w w' : World} {B : Option Addr} {k : Nat} {out : List Am} (h : RTab w lo T c D d L) (hr : MRow w' w.heap.size B k out) (hb : Below w.heap.size w w') : RecvR lo T D d L w (c, absR L, out, []) (.returned (.tuple #[.slice B out.length k, .slice none 0 0])) w' :=
  ⟨B, k, none, 0, L, rfl, hr, SRow.nil _ _ _ _ _, h.below hb, rfl, Chg.of_below hb, fun _ hq => .inl hq⟩
theorem RTab.own (h : RTab W lo T c D d L) {c' : Tc} (hc : Chg (fun q => q = T) W W') (ht : W'.heap[T]? = some (.cells #[.int .i64 c'.own, .int .i64 c'.mac, .slice D L.length d, .bool c'.ann, .int .i64 c'.at_] 109)) : RTab W' lo T c' D d L :=
  ⟨ht, h.row.kept (fun a e => hc.block _ (h.row.bk e).2 (h.ne1 _ ⟨a, e, rfl⟩)), fun e he => Re.ok_kept (h.ok e he) (fun q hq => hc.block q (h.lt (.inr (.inr ⟨e, he, hq⟩))).2 (h.ne2 e he q hq).1), h.lo, h.ne1, h.ne2⟩
theorem recv_no1 {c : Tc} {A : AL} {now op f fm t tm : Int} (h : (!Am.okB ⟨op, f, fm, t, tm⟩ || (f == c.own && fm == c.mac)) = true) : recvA c A now ⟨op, f, fm, t, tm⟩ = (c, A, [], []) := by
  unfold recvA
  by_cases hok : (⟨op, f, fm, t, tm⟩ : Am).ok
  · have e := (Am.okB_iff _).2 hok
    rw [e] at h
    simp at h
    rw [if_neg (fun q => q hok)]
    dsimp only
    rw [if_pos h.1, if_pos h.2]
  · rw [if_pos hok]
theorem recv_yes1 {c : Tc} {op f fm t tm : Int} (h : (!Am.okB ⟨op, f, fm, t, tm⟩ || (f == c.own && fm == c.mac)) = false) : (⟨op, f, fm, t, tm⟩ : Am).ok ∧ (f = c.own → fm ≠ c.mac) := by
  simp at h
  exact ⟨(Am.okB_iff _).1 h.1, h.2⟩
set_option maxHeartbeats 8000000 in
theorem recv_ref (now op f fm t tm : Int) (w : World) (h : RTab w lo T c D d L) (hn : ((absR L).map (·.1)).Nodup) (hL : L.length ≤ 16) (hev : ∀ e ∈ L, EvI now e.v) (h1 : 0 ≤ now ∧ now ≤ 1000000) (h2 : 0 ≤ c.at_ ∧ c.at_ ≤ now) :
    Calls Try.prog 34 #[.pointer (some ⟨T, 0, none⟩), .int .i64 now, .agg #[.int .i64 op, .int .i64 f, .int .i64 fm, .int .i64 t, .int .i64 tm]] w fun e w' => RecvR lo T D d L w (recvA c (absR L) now ⟨op, f, fm, t, tm⟩) e w' := by
  have HT0 := Lib.hid h; have HNOD := Lib.hid hn; have HEV := Lib.hid hev
  have HX := Lib.hid (alloc_new w (.cells #[.int .i64 op, .int .i64 f, .int .i64 fm, .int .i64 t, .int .i64 tm] 23))
  have HB := Lib.hid (below_alloc (o := .cells #[.int .i64 op, .int .i64 f, .int .i64 fm, .int .i64 t, .int .i64 tm] 23) (Below.refl w.heap.size w))
  obtain ⟨x, hx⟩ : ∃ x, w.heap.size = x := ⟨_, rfl⟩
  rw [hx] at HX
  have hTx : T < x := by rw [← hx]; exact blk_lt h.tab
  have HXE := Lib.hid hx
  clear h hn hev hx
  go_enter Try.func34, Try.ntmps34
  go_upto_region 1 with fail
  rw [HXE.out]
  generalize w.alloc (.cells #[.int .i64 op, .int .i64 f, .int .i64 fm, .int .i64 t, .int .i64 tm] 23) = w1 at *
  have HT1 := Lib.hid (HT0.out.below HB.out)
  obtain ⟨⟨a0, a1, a2, a3, a4⟩, -⟩ := cells5 HX.out
  obtain ⟨t0, t1, t2, t3, t4⟩ := cellsR HT1.out
  obtain ⟨s1, hs1⟩ : ∃ s1 : Bool, (!Am.okB ⟨op, f, fm, t, tm⟩ || (f == c.own && fm == c.mac)) = s1 := ⟨_, rfl⟩
  have HS1 := Lib.hid hs1
  go_cut [31] (fun v wy => v = .bool s1 ∧ Below w1.heap.size w1 wy)
  case first =>
    have HV := Lib.hid (fun W => rvalid_any op f fm t tm W)
    generalize Am.okB ⟨op, f, fm, t, tm⟩ = ok at *
    clear HS1
    obtain ⟨b1, hb1⟩ : ∃ b : Bool, (f == c.own) = b := ⟨_, rfl⟩
    obtain ⟨b2, hb2⟩ : ∃ b : Bool, (fm == c.mac) = b := ⟨_, rfl⟩
    rw [hb1, hb2] at hs1
    have HA := Lib.hid (⟨a0, a1, a2, a3, a4, t0, t1⟩ : _ ∧ _ ∧ _ ∧ _ ∧ _ ∧ _ ∧ _)
    have HS1 := Lib.hid hs1
    clear hs1
    cases ok
    case false =>
      refine wp_region_held_drew (S := (fun w' : World => w'.cell? ⟨x, 0, none⟩ = some (.int .i64 op) ∧ w'.cell? ⟨x, 1, none⟩ = some (.int .i64 f) ∧ w'.cell? ⟨x, 2, none⟩ = some (.int .i64 fm) ∧ w'.cell? ⟨x, 3, none⟩ = some (.int .i64 t) ∧ w'.cell? ⟨x, 4, none⟩ = some (.int .i64 tm) ∧ w'.cell? ⟨T, 0, none⟩ = some (.int .i64 c.own) ∧ w'.cell? ⟨T, 1, none⟩ = some (.int .i64 c.mac))) (by kernel_rfl) HA.out ?_
      intro hS
      refine wpAnyH_take (i := 0) (oi := ⟨some 11, _, _, _, _, _⟩) (v := ?vp0) rfl (by kernel_rfl) (by kernel_rfl) (by kernel_rfl) (fun _ _ _ h => h) (Or.inl ⟨by rfl, ?hyp0⟩) (by exact hS) ?rep0
      case hyp0 => (intro ww hSw; (try dsimp only at hSw); go_simp; first | done | with_reducible rfl)
      try simp only [Act.put, List.setIfInBounds_toArray, List.set_cons_zero, List.set_cons_succ]
      refine wpAnyH_ready (rs := [1]) (by kernel_rfl) (by simp) ?_
      refine AllReadyH.cons rfl (fun Ka hKa => ?_) AllReadyH.nil
      go_simp
      refine (HV.out _).mono ?_
      rintro e w2 ⟨rfl, hb⟩
      have hb2 : Below w1.heap.size w1 w2 := ⟨hb.os, hb.tape, hb.output, hb.size, hb.block⟩
      have HB2 := Lib.hid hb2
      refine hKa.out _ _ ⟨bcell hb2 a0, bcell hb2 a1, bcell hb2 a2, bcell hb2 a3, bcell hb2 a4, bcell hb2 t0, bcell hb2 t1⟩ (fun h1 => ?_)
      try simp only [Act.put, List.setIfInBounds_toArray, List.set_cons_zero, List.set_cons_succ]
      refine wpAnyH_take (i := 2) (oi := ⟨some 13, _, _, _, _, _⟩) (v := ?vp2) rfl (by kernel_rfl) (by kernel_rfl) (by kernel_rfl) (fun _ _ _ h => h) (Or.inl ⟨by rfl, ?hyp2⟩) (by exact h1) ?rep2
      case hyp2 => (intro ww hSw; (try dsimp only at hSw); go_simp; first | done | with_reducible rfl)
      try simp only [Act.put, List.setIfInBounds_toArray, List.set_cons_zero, List.set_cons_succ]
      refine wpAnyH_take (i := 3) (oi := ⟨some 14, _, _, _, _, _⟩) (v := ?vp3) rfl (by kernel_rfl) (by kernel_rfl) (by kernel_rfl) (fun _ _ _ h => h) (Or.inl ⟨by rfl, ?hyp3⟩) (by exact h1) ?rep3
      case hyp3 => (intro ww hSw; (try dsimp only at hSw); go_simp; first | done | with_reducible rfl)
      try simp only [Act.put, List.setIfInBounds_toArray, List.set_cons_zero, List.set_cons_succ]
      refine wpAnyH_take (i := 4) (oi := ⟨some 15, _, _, _, _, _⟩) (v := undef) rfl (by kernel_rfl) (by kernel_rfl) (by kernel_rfl) (fun _ _ _ h => h) (Or.inr ⟨by rfl, rfl⟩) (by exact h1) ?_
      try simp only [Act.put, List.setIfInBounds_toArray, List.set_cons_zero, List.set_cons_succ]
      refine wpAnyH_take (i := 5) (oi := ⟨some 16, _, _, _, _, _⟩) (v := undef) rfl (by kernel_rfl) (by kernel_rfl) (by kernel_rfl) (fun _ _ _ h => h) (Or.inr ⟨by rfl, rfl⟩) (by exact h1) ?_
      try simp only [Act.put, List.setIfInBounds_toArray, List.set_cons_zero, List.set_cons_succ]
      refine wpAnyH_take (i := 6) (oi := ⟨some 17, _, _, _, _, _⟩) (v := undef) rfl (by kernel_rfl) (by kernel_rfl) (by kernel_rfl) (fun _ _ _ h => h) (Or.inr ⟨by rfl, rfl⟩) (by exact h1) ?_
      try simp only [Act.put, List.setIfInBounds_toArray, List.set_cons_zero, List.set_cons_succ]
      refine wpAnyH_take (i := 7) (oi := ⟨some 18, _, _, _, _, _⟩) (v := undef) rfl (by kernel_rfl) (by kernel_rfl) (by kernel_rfl) (fun _ _ _ h => h) (Or.inr ⟨by rfl, rfl⟩) (by exact h1) ?_
      try simp only [Act.put, List.setIfInBounds_toArray, List.set_cons_zero, List.set_cons_succ]
      refine wpAnyH_take (i := 8) (oi := ⟨some 19, _, _, _, _, _⟩) (v := undef) rfl (by kernel_rfl) (by kernel_rfl) (by kernel_rfl) (fun _ _ _ h => h) (Or.inr ⟨by rfl, rfl⟩) (by exact h1) ?_
      try simp only [Act.put, List.setIfInBounds_toArray, List.set_cons_zero, List.set_cons_succ]
      refine wpAnyH_take (i := 9) (oi := ⟨some 20, _, _, _, _, _⟩) (v := undef) rfl (by kernel_rfl) (by kernel_rfl) (by kernel_rfl) (fun _ _ _ h => h) (Or.inr ⟨by rfl, rfl⟩) (by exact h1) ?_
      try simp only [Act.put, List.setIfInBounds_toArray, List.set_cons_zero, List.set_cons_succ]
      refine wpAnyH_take (i := 10) (oi := ⟨some 21, _, _, _, _, _⟩) (v := undef) rfl (by kernel_rfl) (by kernel_rfl) (by kernel_rfl) (fun _ _ _ h => h) (Or.inr ⟨by rfl, rfl⟩) (by exact h1) ?_
      try simp only [Act.put, List.setIfInBounds_toArray, List.set_cons_zero, List.set_cons_succ]
      refine wpAnyH_take (i := 11) (oi := ⟨some 22, _, _, _, _, _⟩) (v := undef) rfl (by kernel_rfl) (by kernel_rfl) (by kernel_rfl) (fun _ _ _ h => h) (Or.inr ⟨by rfl, rfl⟩) (by exact h1) ?_
      try simp only [Act.put, List.setIfInBounds_toArray, List.set_cons_zero, List.set_cons_succ]
      refine wpAnyH_take (i := 12) (oi := ⟨some 23, _, _, _, _, _⟩) (v := undef) rfl (by kernel_rfl) (by kernel_rfl) (by kernel_rfl) (fun _ _ _ h => h) (Or.inr ⟨by rfl, rfl⟩) (by exact h1) ?_
      try simp only [Act.put, List.setIfInBounds_toArray, List.set_cons_zero, List.set_cons_succ]
      refine wpAnyH_take (i := 13) (oi := ⟨some 24, _, _, _, _, _⟩) (v := undef) rfl (by kernel_rfl) (by kernel_rfl) (by kernel_rfl) (fun _ _ _ h => h) (Or.inr ⟨by rfl, rfl⟩) (by exact h1) ?_
      try simp only [Act.put, List.setIfInBounds_toArray, List.set_cons_zero, List.set_cons_succ]
      refine wpAnyH_take (i := 14) (oi := ⟨some 25, _, _, _, _, _⟩) (v := undef) rfl (by kernel_rfl) (by kernel_rfl) (by kernel_rfl) (fun _ _ _ h => h) (Or.inr ⟨by rfl, rfl⟩) (by exact h1) ?_
      try simp only [Act.put, List.setIfInBounds_toArray, List.set_cons_zero, List.set_cons_succ]
      refine wpAnyH_take (i := 15) (oi := ⟨some 26, _, _, _, _, _⟩) (v := undef) rfl (by kernel_rfl) (by kernel_rfl) (by kernel_rfl) (fun _ _ _ h => h) (Or.inr ⟨by rfl, rfl⟩) (by exact h1) ?_
      try simp only [Act.put, List.setIfInBounds_toArray, List.set_cons_zero, List.set_cons_succ]
      refine wpAnyH_take (i := 16) (oi := ⟨some 27, _, _, _, _, _⟩) (v := undef) rfl (by kernel_rfl) (by kernel_rfl) (by kernel_rfl) (fun _ _ _ h => h) (Or.inr ⟨by rfl, rfl⟩) (by exact h1) ?_
      try simp only [Act.put, List.setIfInBounds_toArray, List.set_cons_zero, List.set_cons_succ]
      refine wpAnyH_take (i := 17) (oi := ⟨some 28, _, _, _, _, _⟩) (v := undef) rfl (by kernel_rfl) (by kernel_rfl) (by kernel_rfl) (fun _ _ _ h => h) (Or.inr ⟨by rfl, rfl⟩) (by exact h1) ?_
      try simp only [Act.put, List.setIfInBounds_toArray, List.set_cons_zero, List.set_cons_succ]
      refine wpAnyH_take (i := 18) (oi := ⟨some 29, _, _, _, _, _⟩) (v := undef) rfl (by kernel_rfl) (by kernel_rfl) (by kernel_rfl) (fun _ _ _ h => h) (Or.inr ⟨by rfl, rfl⟩) (by exact h1) ?_
      try simp only [Act.put, List.setIfInBounds_toArray, List.set_cons_zero, List.set_cons_succ]
      refine wpAnyH_take (i := 19) (oi := ⟨some 30, _, _, _, _, _⟩) (v := undef) rfl (by kernel_rfl) (by kernel_rfl) (by kernel_rfl) (fun _ _ _ h => h) (Or.inr ⟨by rfl, rfl⟩) (by exact h1) ?_
      try simp only [Act.put, List.setIfInBounds_toArray, List.set_cons_zero, List.set_cons_succ]
      refine wpAnyH_take (i := 20) (oi := ⟨some 31, _, _, _, _, _⟩) (v := ?vp20) rfl (by kernel_rfl) (by kernel_rfl) (by kernel_rfl) (fun _ _ _ h => h) (Or.inl ⟨by rfl, ?hyp20⟩) (by exact h1) ?rep20
      case hyp20 => (intro ww hSw; (try dsimp only at hSw); go_simp; first | done | with_reducible rfl)
      try simp only [Act.put, List.setIfInBounds_toArray, List.set_cons_zero, List.set_cons_succ]
      refine wpAnyH_done (by kernel_rfl) ?_ _
      go_wp2_with fail
      go_meet
      exact ⟨by rw [← HS1.out]; rfl, HB2.out⟩
    case true =>
      cases b1
      case false =>
        refine wp_region_held_drew (S := (fun w' : World => w'.cell? ⟨x, 0, none⟩ = some (.int .i64 op) ∧ w'.cell? ⟨x, 1, none⟩ = some (.int .i64 f) ∧ w'.cell? ⟨x, 2, none⟩ = some (.int .i64 fm) ∧ w'.cell? ⟨x, 3, none⟩ = some (.int .i64 t) ∧ w'.cell? ⟨x, 4, none⟩ = some (.int .i64 tm) ∧ w'.cell? ⟨T, 0, none⟩ = some (.int .i64 c.own) ∧ w'.cell? ⟨T, 1, none⟩ = some (.int .i64 c.mac))) (by kernel_rfl) HA.out ?_
        intro hS
        refine wpAnyH_take (i := 0) (oi := ⟨some 11, _, _, _, _, _⟩) (v := ?vq0) rfl (by kernel_rfl) (by kernel_rfl) (by kernel_rfl) (fun _ _ _ h => h) (Or.inl ⟨by rfl, ?hyq0⟩) (by exact hS) ?req0
        case hyq0 => (intro ww hSw; (try dsimp only at hSw); go_simp; first | done | with_reducible rfl)
        try simp only [Act.put, List.setIfInBounds_toArray, List.set_cons_zero, List.set_cons_succ]
        refine wpAnyH_ready (rs := [1]) (by kernel_rfl) (by simp) ?_
        refine AllReadyH.cons rfl (fun Ka hKa => ?_) AllReadyH.nil
        go_simp
        refine (HV.out _).mono ?_
        rintro e w2 ⟨rfl, hb⟩
        have hb2 : Below w1.heap.size w1 w2 := ⟨hb.os, hb.tape, hb.output, hb.size, hb.block⟩
        have HB2 := Lib.hid hb2
        refine hKa.out _ _ ⟨bcell hb2 a0, bcell hb2 a1, bcell hb2 a2, bcell hb2 a3, bcell hb2 a4, bcell hb2 t0, bcell hb2 t1⟩ (fun h1 => ?_)
        try simp only [Act.put, List.setIfInBounds_toArray, List.set_cons_zero, List.set_cons_succ]
        refine wpAnyH_take (i := 2) (oi := ⟨some 13, _, _, _, _, _⟩) (v := ?vq2) rfl (by kernel_rfl) (by kernel_rfl) (by kernel_rfl) (fun _ _ _ h => h) (Or.inl ⟨by rfl, ?hyq2⟩) (by exact h1) ?req2
        case hyq2 => (intro ww hSw; (try dsimp only at hSw); go_simp; first | done | with_reducible rfl)
        try simp only [Act.put, List.setIfInBounds_toArray, List.set_cons_zero, List.set_cons_succ]
        refine wpAnyH_take (i := 3) (oi := ⟨some 14, _, _, _, _, _⟩) (v := ?vq3) rfl (by kernel_rfl) (by kernel_rfl) (by kernel_rfl) (fun _ _ _ h => h) (Or.inl ⟨by rfl, ?hyq3⟩) (by exact h1) ?req3
        case hyq3 => (intro ww hSw; (try dsimp only at hSw); go_simp; first | done | with_reducible rfl)
        try simp only [Act.put, List.setIfInBounds_toArray, List.set_cons_zero, List.set_cons_succ]
        refine wpAnyH_take (i := 4) (oi := ⟨some 15, _, _, _, _, _⟩) (v := ?vq4) rfl (by kernel_rfl) (by kernel_rfl) (by kernel_rfl) (fun _ _ _ h => h) (Or.inl ⟨by rfl, ?hyq4⟩) (by exact h1) ?req4
        case hyq4 => (intro ww hSw; (try dsimp only at hSw); go_simp; first | done | with_reducible rfl)
        try simp only [Act.put, List.setIfInBounds_toArray, List.set_cons_zero, List.set_cons_succ]
        refine wpAnyH_take (i := 5) (oi := ⟨some 16, _, _, _, _, _⟩) (v := ?vq5) rfl (by kernel_rfl) (by kernel_rfl) (by kernel_rfl) (fun _ _ _ h => h) (Or.inl ⟨by rfl, ?hyq5⟩) (by exact h1) ?req5
        case hyq5 => (intro ww hSw; (try dsimp only at hSw); go_simp; first | done | with_reducible rfl)
        try simp only [Act.put, List.setIfInBounds_toArray, List.set_cons_zero, List.set_cons_succ]
        refine wpAnyH_take (i := 6) (oi := ⟨some 17, _, _, _, _, _⟩) (v := ?vq6) rfl (by kernel_rfl) (by kernel_rfl) (by kernel_rfl) (fun _ _ _ h => h) (Or.inl ⟨by rfl, ?hyq6⟩) (by exact h1) ?req6
        case hyq6 => (intro ww hSw; (try dsimp only at hSw); go_simp; first | done | with_reducible rfl)
        try simp only [Act.put, List.setIfInBounds_toArray, List.set_cons_zero, List.set_cons_succ]
        refine wpAnyH_take (i := 7) (oi := ⟨some 18, _, _, _, _, _⟩) (v := ?vq7) rfl (by kernel_rfl) (by kernel_rfl) (by kernel_rfl) (fun _ _ _ h => h) (Or.inl ⟨by rfl, ?hyq7⟩) (by exact h1) ?req7
        case hyq7 => (intro ww hSw; (try dsimp only at hSw); go_simp; first | done | with_reducible rfl)
        try simp only [Act.put, List.setIfInBounds_toArray, List.set_cons_zero, List.set_cons_succ]
        refine wpAnyH_take (i := 8) (oi := ⟨some 19, _, _, _, _, _⟩) (v := ?vq8) rfl (by kernel_rfl) (by kernel_rfl) (by kernel_rfl) (fun _ _ _ h => h) (Or.inl ⟨by rfl, ?hyq8⟩) (by exact h1) ?req8
        case hyq8 => (intro ww hSw; (try dsimp only at hSw); go_simp; first | done | with_reducible rfl)
        try simp only [Act.put, List.setIfInBounds_toArray, List.set_cons_zero, List.set_cons_succ]
        refine wpAnyH_take (i := 9) (oi := ⟨some 20, _, _, _, _, _⟩) (v := ?vq9) rfl (by kernel_rfl) (by kernel_rfl) (by kernel_rfl) (fun _ _ _ h => h) (Or.inl ⟨by rfl, ?hyq9⟩) (by exact h1) ?req9
        case hyq9 => (intro ww hSw; (try dsimp only at hSw); go_simp; first | done | with_reducible rfl)
        try simp only [Act.put, List.setIfInBounds_toArray, List.set_cons_zero, List.set_cons_succ]
        refine wpAnyH_take (i := 10) (oi := ⟨some 21, _, _, _, _, _⟩) (v := ?vq10) rfl (by kernel_rfl) (by kernel_rfl) (by kernel_rfl) (fun _ _ _ h => h) (Or.inl ⟨by rfl, ?hyq10⟩) (by exact h1) ?req10
        case hyq10 => (intro ww hSw; (try dsimp only at hSw); go_simp; first | done | with_reducible rfl)
        try simp only [Act.put, List.setIfInBounds_toArray, List.set_cons_zero, List.set_cons_succ]
        refine wpAnyH_take (i := 11) (oi := ⟨some 22, _, _, _, _, _⟩) (v := ?vq11) rfl (by kernel_rfl) (by kernel_rfl) (by kernel_rfl) (fun _ _ _ h => h) (Or.inl ⟨by rfl, ?hyq11⟩) (by exact h1) ?req11
        case hyq11 => (intro ww hSw; (try dsimp only at hSw); go_simp; first | done | with_reducible rfl)
        try simp only [Act.put, List.setIfInBounds_toArray, List.set_cons_zero, List.set_cons_succ]
        refine wpAnyH_take (i := 12) (oi := ⟨some 23, _, _, _, _, _⟩) (v := undef) rfl (by kernel_rfl) (by kernel_rfl) (by kernel_rfl) (fun _ _ _ h => h) (Or.inr ⟨by rfl, rfl⟩) (by exact h1) ?_
        try simp only [Act.put, List.setIfInBounds_toArray, List.set_cons_zero, List.set_cons_succ]
        refine wpAnyH_take (i := 13) (oi := ⟨some 24, _, _, _, _, _⟩) (v := undef) rfl (by kernel_rfl) (by kernel_rfl) (by kernel_rfl) (fun _ _ _ h => h) (Or.inr ⟨by rfl, rfl⟩) (by exact h1) ?_
        try simp only [Act.put, List.setIfInBounds_toArray, List.set_cons_zero, List.set_cons_succ]
        refine wpAnyH_take (i := 14) (oi := ⟨some 25, _, _, _, _, _⟩) (v := undef) rfl (by kernel_rfl) (by kernel_rfl) (by kernel_rfl) (fun _ _ _ h => h) (Or.inr ⟨by rfl, rfl⟩) (by exact h1) ?_
        try simp only [Act.put, List.setIfInBounds_toArray, List.set_cons_zero, List.set_cons_succ]
        refine wpAnyH_take (i := 15) (oi := ⟨some 26, _, _, _, _, _⟩) (v := undef) rfl (by kernel_rfl) (by kernel_rfl) (by kernel_rfl) (fun _ _ _ h => h) (Or.inr ⟨by rfl, rfl⟩) (by exact h1) ?_
        try simp only [Act.put, List.setIfInBounds_toArray, List.set_cons_zero, List.set_cons_succ]
        refine wpAnyH_take (i := 16) (oi := ⟨some 27, _, _, _, _, _⟩) (v := undef) rfl (by kernel_rfl) (by kernel_rfl) (by kernel_rfl) (fun _ _ _ h => h) (Or.inr ⟨by rfl, rfl⟩) (by exact h1) ?_
        try simp only [Act.put, List.setIfInBounds_toArray, List.set_cons_zero, List.set_cons_succ]
        refine wpAnyH_take (i := 17) (oi := ⟨some 28, _, _, _, _, _⟩) (v := undef) rfl (by kernel_rfl) (by kernel_rfl) (by kernel_rfl) (fun _ _ _ h => h) (Or.inr ⟨by rfl, rfl⟩) (by exact h1) ?_
        try simp only [Act.put, List.setIfInBounds_toArray, List.set_cons_zero, List.set_cons_succ]
        refine wpAnyH_take (i := 18) (oi := ⟨some 29, _, _, _, _, _⟩) (v := undef) rfl (by kernel_rfl) (by kernel_rfl) (by kernel_rfl) (fun _ _ _ h => h) (Or.inr ⟨by rfl, rfl⟩) (by exact h1) ?_
        try simp only [Act.put, List.setIfInBounds_toArray, List.set_cons_zero, List.set_cons_succ]
        refine wpAnyH_take (i := 19) (oi := ⟨some 30, _, _, _, _, _⟩) (v := ?vq19) rfl (by kernel_rfl) (by kernel_rfl) (by kernel_rfl) (fun _ _ _ h => h) (Or.inl ⟨by rfl, ?hyq19⟩) (by exact h1) ?req19
        case hyq19 => (intro ww hSw; (try dsimp only at hSw); go_simp; first | done | with_reducible rfl)
        try simp only [Act.put, List.setIfInBounds_toArray, List.set_cons_zero, List.set_cons_succ]
        refine wpAnyH_take (i := 20) (oi := ⟨some 31, _, _, _, _, _⟩) (v := ?vq20) rfl (by kernel_rfl) (by kernel_rfl) (by kernel_rfl) (fun _ _ _ h => h) (Or.inl ⟨by rfl, ?hyq20⟩) (by exact h1) ?req20
        case hyq20 => (intro ww hSw; (try dsimp only at hSw); go_simp; first | done | with_reducible rfl)
        try simp only [Act.put, List.setIfInBounds_toArray, List.set_cons_zero, List.set_cons_succ]
        refine wpAnyH_done (by kernel_rfl) ?_ _
        go_wp2_with fail
        go_meet
        exact ⟨by rw [← HS1.out]; rfl, HB2.out⟩
      case true =>
        refine wp_region_held_drew (S := (fun w' : World => w'.cell? ⟨x, 0, none⟩ = some (.int .i64 op) ∧ w'.cell? ⟨x, 1, none⟩ = some (.int .i64 f) ∧ w'.cell? ⟨x, 2, none⟩ = some (.int .i64 fm) ∧ w'.cell? ⟨x, 3, none⟩ = some (.int .i64 t) ∧ w'.cell? ⟨x, 4, none⟩ = some (.int .i64 tm) ∧ w'.cell? ⟨T, 0, none⟩ = some (.int .i64 c.own) ∧ w'.cell? ⟨T, 1, none⟩ = some (.int .i64 c.mac))) (by kernel_rfl) HA.out ?_
        intro hS
        refine wpAnyH_take (i := 0) (oi := ⟨some 11, _, _, _, _, _⟩) (v := ?vr0) rfl (by kernel_rfl) (by kernel_rfl) (by kernel_rfl) (fun _ _ _ h => h) (Or.inl ⟨by rfl, ?hyr0⟩) (by exact hS) ?rer0
        case hyr0 => (intro ww hSw; (try dsimp only at hSw); go_simp; first | done | with_reducible rfl)
        try simp only [Act.put, List.setIfInBounds_toArray, List.set_cons_zero, List.set_cons_succ]
        refine wpAnyH_ready (rs := [1]) (by kernel_rfl) (by simp) ?_
        refine AllReadyH.cons rfl (fun Ka hKa => ?_) AllReadyH.nil
        go_simp
        refine (HV.out _).mono ?_
        rintro e w2 ⟨rfl, hb⟩
        have hb2 : Below w1.heap.size w1 w2 := ⟨hb.os, hb.tape, hb.output, hb.size, hb.block⟩
        have HB2 := Lib.hid hb2
        refine hKa.out _ _ ⟨bcell hb2 a0, bcell hb2 a1, bcell hb2 a2, bcell hb2 a3, bcell hb2 a4, bcell hb2 t0, bcell hb2 t1⟩ (fun h1 => ?_)
        try simp only [Act.put, List.setIfInBounds_toArray, List.set_cons_zero, List.set_cons_succ]
        refine wpAnyH_take (i := 2) (oi := ⟨some 13, _, _, _, _, _⟩) (v := ?vr2) rfl (by kernel_rfl) (by kernel_rfl) (by kernel_rfl) (fun _ _ _ h => h) (Or.inl ⟨by rfl, ?hyr2⟩) (by exact h1) ?rer2
        case hyr2 => (intro ww hSw; (try dsimp only at hSw); go_simp; first | done | with_reducible rfl)
        try simp only [Act.put, List.setIfInBounds_toArray, List.set_cons_zero, List.set_cons_succ]
        refine wpAnyH_take (i := 3) (oi := ⟨some 14, _, _, _, _, _⟩) (v := ?vr3) rfl (by kernel_rfl) (by kernel_rfl) (by kernel_rfl) (fun _ _ _ h => h) (Or.inl ⟨by rfl, ?hyr3⟩) (by exact h1) ?rer3
        case hyr3 => (intro ww hSw; (try dsimp only at hSw); go_simp; first | done | with_reducible rfl)
        try simp only [Act.put, List.setIfInBounds_toArray, List.set_cons_zero, List.set_cons_succ]
        refine wpAnyH_take (i := 4) (oi := ⟨some 15, _, _, _, _, _⟩) (v := ?vr4) rfl (by kernel_rfl) (by kernel_rfl) (by kernel_rfl) (fun _ _ _ h => h) (Or.inl ⟨by rfl, ?hyr4⟩) (by exact h1) ?rer4
        case hyr4 => (intro ww hSw; (try dsimp only at hSw); go_simp; first | done | with_reducible rfl)
        try simp only [Act.put, List.setIfInBounds_toArray, List.set_cons_zero, List.set_cons_succ]
        refine wpAnyH_take (i := 5) (oi := ⟨some 16, _, _, _, _, _⟩) (v := ?vr5) rfl (by kernel_rfl) (by kernel_rfl) (by kernel_rfl) (fun _ _ _ h => h) (Or.inl ⟨by rfl, ?hyr5⟩) (by exact h1) ?rer5
        case hyr5 => (intro ww hSw; (try dsimp only at hSw); go_simp; first | done | with_reducible rfl)
        try simp only [Act.put, List.setIfInBounds_toArray, List.set_cons_zero, List.set_cons_succ]
        refine wpAnyH_take (i := 6) (oi := ⟨some 17, _, _, _, _, _⟩) (v := ?vr6) rfl (by kernel_rfl) (by kernel_rfl) (by kernel_rfl) (fun _ _ _ h => h) (Or.inl ⟨by rfl, ?hyr6⟩) (by exact h1) ?rer6
        case hyr6 => (intro ww hSw; (try dsimp only at hSw); go_simp; first | done | with_reducible rfl)
        try simp only [Act.put, List.setIfInBounds_toArray, List.set_cons_zero, List.set_cons_succ]
        refine wpAnyH_take (i := 7) (oi := ⟨some 18, _, _, _, _, _⟩) (v := ?vr7) rfl (by kernel_rfl) (by kernel_rfl) (by kernel_rfl) (fun _ _ _ h => h) (Or.inl ⟨by rfl, ?hyr7⟩) (by exact h1) ?rer7
        case hyr7 => (intro ww hSw; (try dsimp only at hSw); go_simp; first | done | with_reducible rfl)
        try simp only [Act.put, List.setIfInBounds_toArray, List.set_cons_zero, List.set_cons_succ]
        refine wpAnyH_take (i := 8) (oi := ⟨some 19, _, _, _, _, _⟩) (v := ?vr8) rfl (by kernel_rfl) (by kernel_rfl) (by kernel_rfl) (fun _ _ _ h => h) (Or.inl ⟨by rfl, ?hyr8⟩) (by exact h1) ?rer8
        case hyr8 => (intro ww hSw; (try dsimp only at hSw); go_simp; first | done | with_reducible rfl)
        try simp only [Act.put, List.setIfInBounds_toArray, List.set_cons_zero, List.set_cons_succ]
        refine wpAnyH_take (i := 9) (oi := ⟨some 20, _, _, _, _, _⟩) (v := ?vr9) rfl (by kernel_rfl) (by kernel_rfl) (by kernel_rfl) (fun _ _ _ h => h) (Or.inl ⟨by rfl, ?hyr9⟩) (by exact h1) ?rer9
        case hyr9 => (intro ww hSw; (try dsimp only at hSw); go_simp; first | done | with_reducible rfl)
        try simp only [Act.put, List.setIfInBounds_toArray, List.set_cons_zero, List.set_cons_succ]
        refine wpAnyH_take (i := 10) (oi := ⟨some 21, _, _, _, _, _⟩) (v := ?vr10) rfl (by kernel_rfl) (by kernel_rfl) (by kernel_rfl) (fun _ _ _ h => h) (Or.inl ⟨by rfl, ?hyr10⟩) (by exact h1) ?rer10
        case hyr10 => (intro ww hSw; (try dsimp only at hSw); go_simp; first | done | with_reducible rfl)
        try simp only [Act.put, List.setIfInBounds_toArray, List.set_cons_zero, List.set_cons_succ]
        refine wpAnyH_take (i := 11) (oi := ⟨some 22, _, _, _, _, _⟩) (v := ?vr11) rfl (by kernel_rfl) (by kernel_rfl) (by kernel_rfl) (fun _ _ _ h => h) (Or.inl ⟨by rfl, ?hyr11⟩) (by exact h1) ?rer11
        case hyr11 => (intro ww hSw; (try dsimp only at hSw); go_simp; first | done | with_reducible rfl)
        try simp only [Act.put, List.setIfInBounds_toArray, List.set_cons_zero, List.set_cons_succ]
        refine wpAnyH_take (i := 12) (oi := ⟨some 23, _, _, _, _, _⟩) (v := ?vr12) rfl (by kernel_rfl) (by kernel_rfl) (by kernel_rfl) (fun _ _ _ h => h) (Or.inl ⟨by rfl, ?hyr12⟩) (by exact h1) ?rer12
        case hyr12 => (intro ww hSw; (try dsimp only at hSw); go_simp; first | done | with_reducible rfl)
        try simp only [Act.put, List.setIfInBounds_toArray, List.set_cons_zero, List.set_cons_succ]
        refine wpAnyH_take (i := 13) (oi := ⟨some 24, _, _, _, _, _⟩) (v := ?vr13) rfl (by kernel_rfl) (by kernel_rfl) (by kernel_rfl) (fun _ _ _ h => h) (Or.inl ⟨by rfl, ?hyr13⟩) (by exact h1) ?rer13
        case hyr13 => (intro ww hSw; (try dsimp only at hSw); go_simp; first | done | with_reducible rfl)
        try simp only [Act.put, List.setIfInBounds_toArray, List.set_cons_zero, List.set_cons_succ]
        refine wpAnyH_take (i := 14) (oi := ⟨some 25, _, _, _, _, _⟩) (v := ?vr14) rfl (by kernel_rfl) (by kernel_rfl) (by kernel_rfl) (fun _ _ _ h => h) (Or.inl ⟨by rfl, ?hyr14⟩) (by exact h1) ?rer14
        case hyr14 => (intro ww hSw; (try dsimp only at hSw); go_simp; first | done | with_reducible rfl)
        try simp only [Act.put, List.setIfInBounds_toArray, List.set_cons_zero, List.set_cons_succ]
        refine wpAnyH_take (i := 15) (oi := ⟨some 26, _, _, _, _, _⟩) (v := ?vr15) rfl (by kernel_rfl) (by kernel_rfl) (by kernel_rfl) (fun _ _ _ h => h) (Or.inl ⟨by rfl, ?hyr15⟩) (by exact h1) ?rer15
        case hyr15 => (intro ww hSw; (try dsimp only at hSw); go_simp; first | done | with_reducible rfl)
        try simp only [Act.put, List.setIfInBounds_toArray, List.set_cons_zero, List.set_cons_succ]
        refine wpAnyH_take (i := 16) (oi := ⟨some 27, _, _, _, _, _⟩) (v := ?vr16) rfl (by kernel_rfl) (by kernel_rfl) (by kernel_rfl) (fun _ _ _ h => h) (Or.inl ⟨by rfl, ?hyr16⟩) (by exact h1) ?rer16
        case hyr16 => (intro ww hSw; (try dsimp only at hSw); go_simp; first | done | with_reducible rfl)
        try simp only [Act.put, List.setIfInBounds_toArray, List.set_cons_zero, List.set_cons_succ]
        refine wpAnyH_take (i := 17) (oi := ⟨some 28, _, _, _, _, _⟩) (v := ?vr17) rfl (by kernel_rfl) (by kernel_rfl) (by kernel_rfl) (fun _ _ _ h => h) (Or.inl ⟨by rfl, ?hyr17⟩) (by exact h1) ?rer17
        case hyr17 => (intro ww hSw; (try dsimp only at hSw); go_simp; first | done | with_reducible rfl)
        try simp only [Act.put, List.setIfInBounds_toArray, List.set_cons_zero, List.set_cons_succ]
        refine wpAnyH_take (i := 18) (oi := ⟨some 29, _, _, _, _, _⟩) (v := ?vr18) rfl (by kernel_rfl) (by kernel_rfl) (by kernel_rfl) (fun _ _ _ h => h) (Or.inl ⟨by rfl, ?hyr18⟩) (by exact h1) ?rer18
        case hyr18 => (intro ww hSw; (try dsimp only at hSw); go_simp; first | done | with_reducible rfl)
        try simp only [Act.put, List.setIfInBounds_toArray, List.set_cons_zero, List.set_cons_succ]
        refine wpAnyH_take (i := 19) (oi := ⟨some 30, _, _, _, _, _⟩) (v := ?vr19) rfl (by kernel_rfl) (by kernel_rfl) (by kernel_rfl) (fun _ _ _ h => h) (Or.inl ⟨by rfl, ?hyr19⟩) (by exact h1) ?rer19
        case hyr19 => (intro ww hSw; (try dsimp only at hSw); go_simp; first | done | with_reducible rfl)
        try simp only [Act.put, List.setIfInBounds_toArray, List.set_cons_zero, List.set_cons_succ]
        refine wpAnyH_take (i := 20) (oi := ⟨some 31, _, _, _, _, _⟩) (v := ?vr20) rfl (by kernel_rfl) (by kernel_rfl) (by kernel_rfl) (fun _ _ _ h => h) (Or.inl ⟨by rfl, ?hyr20⟩) (by exact h1) ?rer20
        case hyr20 => (intro ww hSw; (try dsimp only at hSw); go_simp; first | done | with_reducible rfl)
        try simp only [Act.put, List.setIfInBounds_toArray, List.set_cons_zero, List.set_cons_succ]
        refine wpAnyH_done (by kernel_rfl) ?_ _
        go_wp2_with fail
        go_meet
        exact ⟨by rw [← HS1.out]; simp, HB2.out⟩
  case rest =>
    clear a0 a1 a2 a3 a4 t0 t1 t2 t3 t4 hs1
    obtain ⟨rfl, hb2⟩ := hcut
    obtain ⟨w2, rfl⟩ : ∃ wo : World, wo = wc := ⟨_, rfl⟩
    have HT2 := Lib.hid (HT1.out.below hb2); have HX2 := Lib.hid (bblock hb2 HX.out); have HB2 := Lib.hid (below_call HB.out hb2)
    clear hb2 HT1 HX HB
    cases s1 with
    | true =>
      have HR := Lib.hid (recv_no1 (A := absR L) (now := now) HS1.out)
      go_wp2_with fail
      go_ret2
      rw [HR.out]
      exact RecvR.same HT0.out HB2.out
    | false =>
      have hy := recv_yes1 HS1.out
      have HY := Lib.hid hy
      clear hy HS1
      obtain ⟨⟨a0, a1, a2, a3, a4⟩, -⟩ := cells5 HX2.out
      obtain ⟨t0, t1, t2, t3, t4⟩ := cellsR HT2.out
      go_upto_region 3 with fail
      by_cases hf : f = c.own
      case pos =>
        subst hf
        have HR : Hid (recvA c (absR L) now ⟨op, c.own, fm, t, tm⟩ = ((defA c now).1, absR L, (defA c now).2, [])) := Lib.hid (by unfold recvA; rw [if_neg (fun q => q HY.out.1), if_pos rfl, if_neg (HY.out.2 rfl)])
        have e2 : (c.own == c.own) = true := by simp
        go_region
        have HT3 := Lib.hid (HT2.out.below (Below.refl w2.heap.size w2).drew); have HB3 := Lib.hid (HB2.out.drew)
        obtain ⟨w3, hw3⟩ : ∃ w3, w2.drew = w3 := ⟨_, rfl⟩
        rw [hw3] at HT3 HB3 ⊢
        clear a0 a1 a2 a3 a4 t0 t1 t2 t3 t4 HX2 HT2 HB2 hw3
        obtain ⟨t0, t1, t2, t3, t4⟩ := cellsR HT3.out
        have hw : IntKind.i64.wrap (now - c.at_) = now - c.at_ := IntWalk.i64_in _ (by omega)
        by_cases hcond : c.ann = true ∧ now - c.at_ < 10
        · have hd : defA c now = (c, []) := by
            unfold defA agedB
            rw [hcond.1, decide_eq_false (by omega)]; rfl
          rw [hd] at HR
          have HD := Lib.hid hcond.1
          have d1 : decide (now - c.at_ < 10) = true := decide_eq_true hcond.2
          rw [hcond.1] at t3
          clear hcond hd
          go_wp2_with fail
          all_goals first | (exfalso; omega) | skip
          go_ret2
          rw [HR.out]
          exact RecvR.same HT0.out HB3.out
        · have hd : defA c now = ({ c with ann := true, at_ := now }, [req c c.own]) := by
            unfold defA agedB
            rw [if_neg]
            intro q
            simp at q
            exact hcond ⟨q.1, by have := q.2; omega⟩
          rw [hd] at HR
          have hcase : (c.ann = false) ∨ (c.ann = true ∧ decide (now - c.at_ < 10) = false) := by
            cases hq : c.ann with
            | false => exact .inl rfl
            | true => exact .inr ⟨rfl, decide_eq_false (fun q => hcond ⟨hq, q⟩)⟩
          have z3 := (cell_of_block (k := 3) HT3.out.tab rfl).2; have z4 := (cell_of_block (k := 4) HT3.out.tab rfl).2
          have hTl := (HT3.out.lt (.inl rfl)).2
          have HT4 : Hid (RTab ((w3.setCell ⟨T, 3, none⟩ (.bool true)).setCell ⟨T, 4, none⟩ (.int .i64 now)) lo T { c with ann := true, at_ := now } D d L ∧ Chg (fun q => q = T) w3 ((w3.setCell ⟨T, 3, none⟩ (.bool true)).setCell ⟨T, 4, none⟩ (.int .i64 now))) := Lib.hid (by
            have hch : Chg (fun q => q = T) w3 ((w3.setCell ⟨T, 3, none⟩ (.bool true)).setCell ⟨T, 4, none⟩ (.int .i64 now)) := Chg.setCell (p := ⟨T, 4, none⟩) (Chg.setCell (p := ⟨T, 3, none⟩) (Chg.refl (fun q => q = T) w3) (.inl rfl) _) (.inl rfl) _
            exact ⟨HT3.out.own (c' := { c with ann := true, at_ := now }) hch (cells_eq (block_setCell (k := 4) (block_setCell (k := 3) HT3.out.tab)) (by simp)), hch⟩)
          clear hcond hd
          rcases hcase with hc0 | ⟨hc0, d1⟩
          all_goals
            rw [hc0] at t3
            clear hc0
            go_upto_region 8 with fail
            generalize (w3.setCell ⟨T, 3, none⟩ (.bool true)).setCell ⟨T, 4, none⟩ (.int .i64 now) = w4 at *
            clear t0 t1 t2 t3 t4 z3 z4
            obtain ⟨t0, -⟩ := cellsR HT4.out.1
            dsimp only at t0
            go_wp2_with fail
            refine (ask_ref c.own w4 HT4.out.1).mono ?_
            rintro e w5 ⟨rfl, hb5⟩
            have HB5 := Lib.hid hb5
            clear hb5
            go_wp2_with fail
            go_ret2
            rw [HR.out]
            have hz3 := HB3.out.size; have hz4 := HT4.out.2.size; have hz5 := HB5.out.size
            exact ⟨some ⟨w5.heap.size, 0, none⟩, 1, none, 0, L, rfl, mrow_one (a := req c c.own) (by omega) (alloc_new w5 _), SRow.nil _ _ _ _ _, (HT4.out.1.below HB5.out).below ((Below.refl _ _).alloc (Nat.le_refl _) _), rfl, (((Chg.of_below HB3.out).trans (HT4.out.2.mono (fun q (e : q = T) => (show ROwn T D L q from .inl e))) (fun q e => .inl e)).below HB5.out).alloc _, fun _ hq => .inl hq⟩
      case neg =>
        have e2 : (f == c.own) = false := beq_eq_false_iff_ne.2 hf
        go_region
        have HT3 := Lib.hid (HT2.out.below (Below.refl w2.heap.size w2).drew); have HB3 := Lib.hid (HB2.out.drew); have HX3 : Hid (w2.drew.heap[x]? = _) := Lib.hid HX2.out
        obtain ⟨w3, hw3⟩ : ∃ w3, w2.drew = w3 := ⟨_, rfl⟩
        rw [hw3] at HT3 HB3 HX3 ⊢
        clear a0 a1 a2 a3 a4 t0 t1 t2 t3 t4 HX2 HT2 HB2 hw3 e2
        obtain ⟨⟨a0, a1, a2, a3, a4⟩, -⟩ := cells5 HX3.out
        obtain ⟨t0, t1, t2, t3, t4⟩ := cellsR HT3.out
        go_upto_region 9 with fail
        by_cases ht : t = c.own
        case neg =>
          have HR : Hid (recvA c (absR L) now ⟨op, f, fm, t, tm⟩ = (c, absR L, [], [])) := Lib.hid (by unfold recvA; rw [if_neg (fun q => q HY.out.1), if_neg hf, if_pos ht])
          have e3 : (t != c.own) = true := by simpa using ht
          have e3' : (t == c.own) = false := beq_eq_false_iff_ne.2 ht
          go_region
          go_wp2_with fail
          go_ret2
          rw [HR.out]
          exact RecvR.same HT0.out HB3.out.drew
        case pos =>
          subst ht
          have e3 : (c.own == c.own) = true := by simp
          go_region
          have HT4 := Lib.hid (HT3.out.below (Below.refl w3.heap.size w3).drew); have HB4 := Lib.hid (HB3.out.drew); have HX4 : Hid (w3.drew.heap[x]? = _) := Lib.hid HX3.out
          obtain ⟨w4, hw4⟩ : ∃ w4, w3.drew = w4 := ⟨_, rfl⟩
          rw [hw4] at HT4 HB4 HX4 ⊢
          clear a0 a1 a2 a3 a4 t0 t1 t2 t3 t4 HX3 HT3 HB3 hw4 e3
          obtain ⟨⟨a0, a1, a2, a3, a4⟩, -⟩ := cells5 HX4.out
          obtain ⟨t0, t1, t2, t3, t4⟩ := cellsR HT4.out
          obtain ⟨out, hout⟩ : ∃ out : List Am, (if op = 1 then [(⟨2, c.own, c.mac, f, fm⟩ : Am)] else []) = out := ⟨_, rfl⟩
          have HOUT := Lib.hid hout
          clear hout
          go_upto_if 75 with fail
          go_cut [8] (fun s wy => ∃ B k, s = .slice B out.length k ∧ MRow wy w.heap.size B k out ∧ Below w4.heap.size w4 wy)
          case first =>
            by_cases hop : op = 1
            · subst hop
              have e4 : ((1 : Int) == 1) = true := by simp
              have ho : out = [⟨2, c.own, c.mac, f, fm⟩] := by rw [← HOUT.out]; simp
              subst ho
              have hlx := HB4.out.size
              have HN := Lib.hid (alloc_new w4 (.cells #[.int .i64 2, .int .i64 c.own, .int .i64 c.mac, .int .i64 f, .int .i64 fm] 23))
              go_upto_region 13 with fail
              go_region
              all_goals
                go_wp2_with fail
                go_meet
                exact ⟨some ⟨w4.heap.size, 0, none⟩, 1, rfl, mrow_one (a := ⟨2, c.own, c.mac, f, fm⟩) hlx HN.out, (below_alloc (Below.refl _ _)).drew⟩
            · have e4 : (op == 1) = false := beq_eq_false_iff_ne.2 hop
              have ho : out = [] := by rw [← HOUT.out]; simp [hop]
              subst ho
              go_wp2_with fail
              go_meet
              exact ⟨none, 0, rfl, SRow.nil _ _ _ _ _, Below.refl _ _⟩
          case rest =>
            clear a0 a1 a2 a3 a4 t0 t1 t2 t3 t4
            obtain ⟨B, k, rfl, hrow, hb4⟩ := hcut
            obtain ⟨w5, rfl⟩ : ∃ wo : World, wo = wc := ⟨_, rfl⟩
            have HRW := Lib.hid hrow
            have HT5 := Lib.hid (HT4.out.below hb4); have HX5 := Lib.hid (bblock hb4 HX4.out); have HB5 := Lib.hid (below_call HB4.out hb4)
            clear hrow hb4 HT4 HX4 HB4
            obtain ⟨⟨a0, a1, a2, a3, a4⟩, -⟩ := cells5 HX5.out
            obtain ⟨t0, -, t2, -⟩ := cellsR HT5.out
            obtain ⟨n, hln⟩ : ∃ n, L.length = n := ⟨_, rfl⟩
            have HLN := Lib.hid hln
            rw [hln] at t2 hL
            clear hln
            go_wp2_with fail
            refine (find_ref f w5 HT5.out (by rw [HLN.out]; omega)).mono ?_
            rintro e w' ⟨⟨i, e, hi, hk, rfl⟩ | ⟨hno, rfl⟩, rfl⟩
            · have hil : i < n := by have := (List.getElem?_eq_some_iff.1 hi).1; rw [HLN.out] at this; exact this
              have i0 : (0 : Int) ≤ (i : Int) := by omega
              have i1 : (i : Int) < (n : Int) := by omega
              have d1 : decide ((i : Int) < 0) = false := decide_eq_false (by omega)
              obtain ⟨g, rfl, hgl, hgo⟩ := HT5.out.has hi
              have hl := absR_some HNOD.out hi
              obtain ⟨ke, v, A, cx⟩ := e
              dsimp only at hk hl
              subst hk
              cases v with
              | res mac since used =>
                have HR : Hid (recvA c (absR L) now ⟨op, ke, fm, c.own, tm⟩ = (c, absR L, out, [])) := Lib.hid (by unfold recvA; rw [if_neg (fun q => q HY.out.1), if_neg hf, if_neg (by simp), hl, HOUT.out])
                have c1 := HT5.out.at_ rfl hi (r := 1) (by omega) rfl
                clear hi hl
                go_wp2_with fail
                all_goals first | (exfalso; omega) | skip
                go_ret2
                rw [HR.out]
                exact RecvR.told HT0.out HRW.out HB5.out
              | inc held sent first last =>
                have HR : Hid (recvA c (absR L) now ⟨op, ke, fm, c.own, tm⟩ = (c, upd (absR L) ke (.res fm now now), out, held.map fun s => ⟨ke, fm, s⟩)) := Lib.hid (by unfold recvA; rw [if_neg (fun q => q HY.out.1), if_neg hf, if_neg (by simp), hl, HOUT.out])
                have c1 := HT5.out.at_ rfl hi (r := 1) (by omega) rfl
                have c5 := HT5.out.at_ rfl hi (r := 5) (by omega) rfl
                have HI := Lib.hid hi
                clear hi hl
                go_upto_region 18 with fail
                have hxg : g ≠ x := fun e => by have := (HT0.out.lt hgo).2; have := HXE.out; omega
                obtain ⟨u0, u1, u2, u3, u4, u5, u6, u7, u8, hu⟩ := (⟨ke, .inc held sent first last, A, cx⟩ : Re).nine
                obtain ⟨k0, k1, k2, k3, k4, k5, k6, k7, k8⟩ := HT5.out.nine rfl HI.out hu
                have z := fun j => World.ownsRow.frozenAt HT5.out.row j
                have z0 := z (i * 9); have z1 := z (i * 9 + 1); have z2 := z (i * 9 + 2); have z3 := z (i * 9 + 3); have z4 := z (i * 9 + 4); have z5 := z (i * 9 + 5); have z6 := z (i * 9 + 6); have z7 := z (i * 9 + 7); have z8 := z (i * 9 + 8)
                clear z
                have hch9 := set9_chg w5 g (i * 9) (.int .i64 ke) (.bool true) (.int .i64 fm) (.int .i64 now) (.int .i64 now) (.slice none 0 0) (.int .i64 0) (.int .i64 0) (.int .i64 0)
                have hr9 := EnRow.set9 (e' := ⟨ke, .res fm now now, none, 0⟩) HT5.out.row HI.out rfl
                have HC9 := Lib.hid hch9; have HR9 := Lib.hid hr9
                clear hch9 hr9 c1 c5
                go_region
                clear k0 k1 k2 k3 k4 k5 k6 k7 k8 z0 z1 z2 z3 z4 z5 z6 z7 z8 t0 t2 a0 a1 a2 a3 a4 hu
                generalize ((((((((w5.setCell ⟨g, i * 9, none⟩ (.int .i64 ke)).setCell ⟨g, i * 9 + 1, none⟩ (.bool true)).setCell ⟨g, i * 9 + 2, none⟩ (.int .i64 fm)).setCell ⟨g, i * 9 + 3, none⟩ (.int .i64 now)).setCell ⟨g, i * 9 + 4, none⟩ (.int .i64 now)).setCell ⟨g, i * 9 + 5, none⟩ (.slice none 0 0)).setCell ⟨g, i * 9 + 6, none⟩ (.int .i64 0)).setCell ⟨g, i * 9 + 7, none⟩ (.int .i64 0)).setCell ⟨g, i * 9 + 8, none⟩ (.int .i64 0) = w9 at *
                have hg0 := (HT0.out.lt hgo).2
                have hz5 := HB5.out.size
                have hT9 : RTab w9 lo T c (some ⟨g, 0, none⟩) d (L.set i ⟨ke, .res fm now now, none, 0⟩) := HT5.out.put rfl HI.out HR9.out (fun q hq hl => HC9.out.block q hl hq) rfl (fun q hq => absurd hq (bk_none q))
                have HT9 := Lib.hid (hT9.below (Below.refl w9.heap.size w9).drew)
                have HX9 : Hid (w9.drew.heap[x]? = some (.cells #[.int .i64 op, .int .i64 ke, .int .i64 fm, .int .i64 c.own, .int .i64 tm] 23)) := Lib.hid ((HC9.out.block x (blk_lt HX5.out) (fun e => hxg e.symm)).trans HX5.out)
                have HRW9 : Hid (MRow w9.drew w.heap.size B k out) := Lib.hid (HRW.out.kept (fun a e => HC9.out.block _ (HRW.out.bk e).2 (by have := (HRW.out.bk e).1; omega)))
                have hmem := List.mem_of_getElem? HI.out
                have hor : ORow 9 1 strC w9.drew lo A cx held := ORow.kept (HT5.out.ok _ hmem) (fun a e => HC9.out.block _ (ORow.bk (HT5.out.ok _ hmem) e).2 (fun e2 => (HT5.out.ne2 _ hmem a.block ⟨a, e, rfl⟩).2 ⟨_, rfl, e2.symm⟩))
                have HOR := Lib.hid hor
                have HCC : Hid (Chg (ROwn T (some ⟨g, 0, none⟩) L) w w9.drew) := Lib.hid (((Chg.of_below HB5.out).trans (HC9.out.mono (fun q (e : q = g) => (show ROwn T (some ⟨g, 0, none⟩) L q from e ▸ hgo))) (fun q e => .inl e)).drew)
                have hevi := HEV.out _ hmem
                unfold EvI at hevi
                obtain ⟨⟨-, hh4⟩, -⟩ := hevi
                clear hT9 hor hmem HC9 HR9
                obtain ⟨⟨a0, a1, a2, a3, a4⟩, -⟩ := cells5 HX9.out
                have hz9 := HCC.out.size
                generalize w9.drew = w9 at *
                go_wp2_with fail
                refine (out_ref A cx held ke fm w9 HOR.out (by omega)).mono ?_
                rintro e w10 ⟨⟨F, nb, rfl, hrow⟩, hb10⟩
                have HFR := Lib.hid hrow; have HB10 := Lib.hid hb10
                clear hrow hb10 a0 a1 a2 a3 a4
                go_wp2_with fail
                go_ret2
                rw [HR.out]
                exact ⟨B, k, F, nb, _, by simp, HRW9.out.below HB10.out, HFR.out.mono (by omega), HT9.out.below HB10.out, absR_set HNOD.out HI.out rfl, HCC.out.below HB10.out, fun q hq => ROwn.set HI.out hq (fun q hq => absurd hq (bk_none q))⟩
            · have HR : Hid (recvA c (absR L) now ⟨op, f, fm, c.own, tm⟩ = (c, absR L, out, [])) := Lib.hid (by unfold recvA; rw [if_neg (fun q => q HY.out.1), if_neg hf, if_neg (by simp), absR_none hno, HOUT.out])
              have d1 : decide ((-1 : Int) < 0) = true := by decide
              clear hno
              go_wp2_with fail
              go_ret2
              rw [HR.out]
              exact RecvR.told HT0.out HRW.out HB5.out
end
end Go.Proofs.Ytjdoemmfemogmaa.Ar

namespace Go.Proofs.Ytjdoemmfemogmaa.Ar
set_option maxRecDepth 100000
open Go.RowKit Go.Proofs.Ytjdoemmfemogmaa.Wire

section
variable {P : Program} {α : Type} {T : TypeId} {k : Nat} {enc : α → List Value} {W : World} {lo : Nat} {A : Option Addr} {c : Nat} {l : List α}
/-- append of a list whose cells lie somewhere, or of none -/
theorem SRow.append (h : SRow T k enc W lo A c l) (hk : ∀ x, (enc x).length = k) (t ty : TypeId) (i : TypeInfo) (z : Value) (bytes : Nat) (ht : P.underlying t = some (.slice T)) (hi : P.info? T = some i) (hz : i.zero = some z) (hs : i.size = k) (hb : i.bytes = bytes) (hzs : z.cells.size = k) (h0 : 0 < k) (B : Option Addr) (m d : Nat) (xs : List α) (hm : xs.length = m)
    (hB : 0 < m → ∃ ad, B = some ad ∧ ∀ j u, (xs.flatMap enc)[j]? = some u → W.cell? (ad.add j) = some u) (h1 : ∀ u ∈ xs.flatMap enc, u.oneCell' = true) (h63 : l.length + m ≤ maxLen) (hbytes : (l.length + m) * bytes ≤ 140737488355328) (hlo : lo ≤ W.heap.size) :
    ∃ A' c' W', (Builtin.append_ #[t, t] ty #[.slice A l.length c, .slice B m d]).run P W = .ok (.slice A' (l.length + m) c') W' ∧ SRow T k enc W' lo A' c' (l ++ xs) ∧ W.grownBy W' (Value.ownBlock (.slice A l.length c)) ∧ ∀ q, BK A' q → (BK A q ∨ W.heap.size ≤ q) := by
  by_cases hm0 : m = 0
  · subst hm0
    obtain rfl : xs = [] := List.eq_nil_of_length_eq_zero hm
    have hc : l.length ≤ c := h.cap
    refine ⟨A, c, W, app_none (P := P) W t ty T i ht hi A B l.length c 0 d hc rfl, by rw [List.append_nil]; exact h, ⟨rfl, rfl, rfl, Nat.le_refl _, fun _ _ _ => rfl⟩, fun q hq => .inl hq⟩
  · obtain ⟨ad, rfl, hnews⟩ := hB (by omega)
    have hl : (xs.flatMap enc).length = m * k := by rw [encs_length k enc hk, hm]
    obtain ⟨g, cap, w', hr, h2, h3, h4, h5⟩ := run_append_lies (P := P) W t ty lo T i z k bytes ht hi hz hs hb hzs h0 (.slice A l.length c) l.length _ h ad m d (xs.flatMap enc) hl hnews h1 (by omega) h63 hbytes hlo W.heap.size rfl
    refine ⟨some ⟨g, 0, none⟩, cap, w', hr, ?_, h3, fun q hq => ?_⟩
    · unfold SRow
      rw [List.length_append, hm, List.flatMap_append]; exact h2
    · obtain ⟨a, e, rfl⟩ := hq
      cases e
      rcases h4 with h4 | h4
      · left
        cases A with
        | none => simp [Value.ownBlock] at h4
        | some b => exact ⟨b, rfl, by simpa [Value.ownBlock] using h4⟩
      · right; show W.heap.size ≤ g; omega
/-- at an operation of a region that draws its order -/
theorem step_app {ops : Array Oper} {o : Oper} {a : Act} {K : Act → World → Prop} {Q : Exit → Act → World → Prop} {E : Prop} (hgd : o.guard = none) (s x : Operand) (t : TypeId)
    (ho : o.op = .call { callee := .builtin .append, args := #[s, x], argTypes := #[t, t] })
    (h : SRow T k enc W lo A c l) (hk : ∀ x, (enc x).length = k) (i : TypeInfo) (z : Value) (bytes : Nat) (ht : P.underlying t = some (.slice T)) (hi : P.info? T = some i) (hz : i.zero = some z) (hs : i.size = k) (hb : i.bytes = bytes) (hzs : z.cells.size = k) (h0 : 0 < k) (n : Nat) (hn : l.length = n) (B : Option Addr) (m d : Nat) (xs : List α) (hsv : a.eval s = .slice A n c) (hx : a.eval x = .slice B m d) (hm : xs.length = m)
    (hB : 0 < m → ∃ ad, B = some ad ∧ ∀ j u, (xs.flatMap enc)[j]? = some u → W.cell? (ad.add j) = some u) (h1 : ∀ u ∈ xs.flatMap enc, u.oneCell' = true) (h63 : n + m ≤ maxLen) (hbytes : (n + m) * bytes ≤ 140737488355328) (hlo : lo ≤ W.heap.size)
    (hK : ∀ A' c' W', SRow T k enc W' lo A' c' (l ++ xs) → W.grownBy W' (Value.ownBlock (.slice A n c)) → (∀ q, BK A' q → (BK A q ∨ W.heap.size ≤ q)) → K (a.put o.dst (.slice A' (n + m) c')) W') :
    if Region.wanted o (yielded ops a.tmps) = true then Oper.wp P o a W K Q else E := by
  subst hn
  have hw : Region.wanted o (yielded ops a.tmps) = true := by simp [Region.wanted, hgd]
  rw [if_pos hw]
  obtain ⟨A', c', W', hr, h2, h3, h4⟩ := h.append (P := P) hk t o.type i z bytes ht hi hz hs hb hzs h0 B m d xs hm hB h1 h63 hbytes hlo
  unfold Oper.wp execOp
  simp only [ho, resolve, invoke, builtin, Sem.run_bind, Sem.run_pure, Result.andThen_ok, List.map_toArray, List.map_cons, List.map_nil, hsv, hx, hr]
  exact hK A' c' W' h2 h3 h4
/-- at an operation of a plain region -/
theorem list_app {ops : Array Oper} {rest : List Oper} {o : Oper} {a : Act} {Q : Exit → Act → World → Prop} (hgd : o.guard = none) (s x : Operand) (t : TypeId)
    (ho : o.op = .call { callee := .builtin .append, args := #[s, x], argTypes := #[t, t] })
    (h : SRow T k enc W lo A c l) (hk : ∀ x, (enc x).length = k) (i : TypeInfo) (z : Value) (bytes : Nat) (ht : P.underlying t = some (.slice T)) (hi : P.info? T = some i) (hz : i.zero = some z) (hs : i.size = k) (hb : i.bytes = bytes) (hzs : z.cells.size = k) (h0 : 0 < k) (n : Nat) (hn : l.length = n) (B : Option Addr) (m d : Nat) (xs : List α) (hsv : a.eval s = .slice A n c) (hx : a.eval x = .slice B m d) (hm : xs.length = m)
    (hB : 0 < m → ∃ ad, B = some ad ∧ ∀ j u, (xs.flatMap enc)[j]? = some u → W.cell? (ad.add j) = some u) (h1 : ∀ u ∈ xs.flatMap enc, u.oneCell' = true) (h63 : n + m ≤ maxLen) (hbytes : (n + m) * bytes ≤ 140737488355328) (hlo : lo ≤ W.heap.size)
    (hK : ∀ A' c' W', SRow T k enc W' lo A' c' (l ++ xs) → W.grownBy W' (Value.ownBlock (.slice A n c)) → (∀ q, BK A' q → (BK A q ∨ W.heap.size ≤ q)) → wpList P ops Q rest (a.put o.dst (.slice A' (n + m) c')) W') :
    wpList P ops Q (o :: rest) a W := by
  subst hn
  refine wpList_plain hgd fun K2 hK2 => ?_
  obtain ⟨A', c', W', hr, h2, h3, h4⟩ := h.append (P := P) hk t o.type i z bytes ht hi hz hs hb hzs h0 B m d xs hm hB h1 h63 hbytes hlo
  unfold Oper.wp execOp
  simp only [ho, resolve, invoke, builtin, Sem.run_bind, Sem.run_pure, Result.andThen_ok, List.map_toArray, List.map_cons, List.map_nil, hsv, hx, hr]
  exact hK2 _ _ (hK A' c' W' h2 h3 h4)
end
end Go.Proofs.Ytjdoemmfemogmaa.Ar
