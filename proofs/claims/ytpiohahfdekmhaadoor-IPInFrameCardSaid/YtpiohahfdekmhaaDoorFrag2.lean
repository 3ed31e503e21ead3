/-
  ip.Fragment where the datagram is cut: the slice holds the fragments.
-/
import Derived.Test.YtpiohahfdekmhaaDoorFrag1
import Derived.Test.YtpiohahfdekmhaaDoorIpValid
import Derived.Deep.AppendLies
namespace Go.Proofs.YtpiohahfdekmhaaDoor.Ip
set_option maxRecDepth 100000
open Go.RowKit Go.Shelf Go.Proofs.YtpiohahfdekmhaaDoor.Wire
attribute [local go_sem] Oper.semAt_some

theorem pieces_stops (F : Fence) (m : Nat) (h6 : F.fn 39) (hro : F.round = none) (hm : 1 ≤ m) (Bp Bn : Nat) (p : Pk) (n : Nat) (hs : p.s.size ≤ 4000) (hn : 1 ≤ n) (hn' : n ≤ 4000) (ho : 0 ≤ p.off) (ho' : p.off ≤ 4000) (w : World)
    (hBp : w.heap[Bp]? = some (.cells p.cells.toArray 26)) (hBn : w.heap[Bn]? = some (.cells #[.int .i64 (n : Int)] 3)) :
    SeqStopsK F m Tryd.prog 39 #[.pointer (some ⟨Bp, 0, none⟩), .pointer (some ⟨Bn, 0, none⟩)] (fun x : Pk => #[x.val]) (KeepsPN Bp Bn p n) (fun ys => ys = frags p n (count p n)) (fun _ => True) (count p n) w := fun l J Jx W hW hJ _ hY h0 =>
  pieces1_in F m h6 hro hm l Bp Bn p n hs hn hn' ho ho' J Jx W hJ hY (bblock hW hBp) (bblock hW hBn) h0

theorem pieces_in (F : Fence) (m : Nat) (h : F.fn 27) (hro : F.round = none) (f t pr ttl id : Int) (df mf : Bool) (off : Int) (s : ByteArray) (n : Int) (w : World) :
    CallsIn F m Tryd.prog 27 #[.agg #[.int .i64 f, .int .i64 t, .int .i64 pr, .int .i64 ttl, .int .i64 id, .bool df, .bool mf, .int .i64 off, .string s], .int .i64 n] w fun e w' => e = .returned (.func (.func 39) #[] #[.pointer (some ⟨w.heap.size, 0, none⟩), .pointer (some ⟨w.heap.size + 1, 0, none⟩)]) ∧ w' = (w.alloc (.cells #[.int .i64 f, .int .i64 t, .int .i64 pr, .int .i64 ttl, .int .i64 id, .bool df, .bool mf, .int .i64 off, .string s] 26)).alloc (.cells #[.int .i64 n] 3) := by
  refine callsIn_of_wp Tryd.func27 rfl h ?_ hro
  simp only [Tryd.ntmps27, List.size_toArray, List.length_cons, List.length_nil, Nat.reduceAdd, Nat.reduceSub, Array.replicate_succ, Array.replicate_zero, List.push_toArray, List.append_toArray, List.nil_append, List.cons_append]
  gi_wp2
  go_ret
  exact ⟨rfl, rfl⟩

/-- the cells of datagrams, one behind the other -/
def pkCells (l : List Pk) : List Value := l.flatMap Pk.cells
theorem pkCells_length (l : List Pk) : (pkCells l).length = l.length * 9 := by
  unfold pkCells
  induction l with
  | nil => rfl
  | cons a l ih => simp [ih, Pk.cells]; omega
theorem pkCells_snoc (l : List Pk) (x : Pk) : pkCells (l ++ [x]) = pkCells l ++ x.cells := by simp [pkCells]

theorem ownsRow_mono {w : World} {b b' : Nat} {e : TypeId} {size : Nat} {v : Value} {n : Nat} {xs : List Value} (h : w.ownsRow b e size v n xs) (hb : b' ≤ b) : w.ownsRow b' e size v n xs :=
  ⟨h.1, h.2.imp id (fun ⟨g, cap, cur, h1, h2, h3⟩ => ⟨g, cap, cur, h1, Nat.le_trans hb h2, h3⟩)⟩
/-- 'out = append(out, ..)' where the row lies from n₁ on -/
theorem appended2 {W w1 : World} {n₀ n₁ B : Nat} {t e : TypeId} {size : Nat} {v v' : Value} {k m : Nat} {xs ys : List Value} {tmp : Obj}
    (hv : Boxed W B t v) (hte : t ≠ e) (hrow : W.ownsRow n₁ e size v k xs) (hn₀ : n₀ ≤ W.heap.size) (hn : n₀ ≤ n₁) (hB : n₀ ≤ B)
    (hown' : w1.ownsRow n₁ e size v' m ys) (hgrow : (W.alloc tmp).grownBy w1 v.ownBlock) :
    Boxed w1 B t v ∧ Boxed (w1.setCell ⟨B, 0, none⟩ v') B t v' ∧ (w1.setCell ⟨B, 0, none⟩ v').ownsRow n₁ e size v' m ys ∧ KeepsOthers W (w1.setCell ⟨B, 0, none⟩ v') ∧ Below n₀ W (w1.setCell ⟨B, 0, none⟩ v')
      ∧ (∀ b o, b < n₁ → b ≠ B → KeepsB b o W (w1.setCell ⟨B, 0, none⟩ v')) ∧ W.heap.size ≤ (w1.setCell ⟨B, 0, none⟩ v').heap.size := by
  have hv1 : Boxed w1 B t v := (hv.alloc tmp).kept hgrow (hv.not_row hte hrow)
  have hob : ∀ j, v.ownBlock = some j → n₁ ≤ j := fun j ej => by
    rcases hrow.2 with ⟨rfl, _⟩ | ⟨g, cap, cur, rfl, hb, _, _⟩
    · simp [Value.ownBlock] at ej
    · obtain rfl : g = j := by simpa [Value.ownBlock] using ej
      exact hb
  refine ⟨hv1, hv1.set v', hown'.kept (grownBy_setCell' w1 B v') (.inr (hv1.not_row hte hown').symm), ?_, ?_, ?_, ?_⟩
  · refine ((KeepsOthers.alloc W tmp).trans (KeepsOthers.of_grownBy hgrow fun j o ej hj => ?_)).trans (KeepsOthers.setCell _ _ _)
    rcases (hrow.alloc tmp).2 with ⟨rfl, _⟩ | ⟨g, cap, cur, rfl, _, hgb, _⟩
    · simp [Value.ownBlock] at ej
    · obtain rfl : g = j := by simpa [Value.ownBlock] using ej
      rw [hgb] at hj; cases hj; rfl
  · exact (((Below.refl n₀ W).alloc hn₀ tmp).grown hgrow (by simp; omega) fun j ej => Nat.le_trans hn (hob j ej)).setCell (p := ⟨B, 0, none⟩) hB v'
  · intro b o hb hne ho
    have h1 := block_alloc ho tmp
    have h2 := (hgrow.block b (blk_lt h1) (fun e => by have := hob b e.symm; omega)).trans h1
    exact block_set_other h2 (fun e => hne e.symm)
  · have := hgrow.size
    simp [World.setCell] at this ⊢; omega

theorem infoPk : (Tryd.prog.info? 26).map (fun i => (i.zero, i.size, i.bytes)) = some (some (.agg #[.int .i64 0, .int .i64 0, .int .i64 0, .int .i64 0, .int .i64 0, .bool false, .bool false, .int .i64 0, .string ⟨#[]⟩]), 9, 72) := by kernel_rfl

set_option maxRecDepth 100000 in
set_option maxHeartbeats 4000000 in
theorem fragment_cut (f t pr ttl id : Int) (mf : Bool) (off : Int) (s : ByteArray) (size : Int) (n : Nat) (w : World) (hv : VLen f t pr ttl id false mf off s.size) (h68 : 68 ≤ size) (hbig : size < 20 + s.size) (hn : Hid (((n : Nat) : Int) = (size - 20) / 8 * 8)) :
    CallsIn Fence.wide 3 Tryd.prog 13 #[.agg #[.int .i64 f, .int .i64 t, .int .i64 pr, .int .i64 ttl, .int .i64 id, .bool false, .bool mf, .int .i64 off, .string s], .int .i64 size] w fun e w' =>
      ∃ v, e = .returned (.tuple #[v, .int .i64 0]) ∧ w'.ownsRow w.heap.size 26 9 v (count ⟨f, t, pr, ttl, id, false, mf, off, s⟩ n) (pkCells (frags ⟨f, t, pr, ttl, id, false, mf, off, s⟩ n (count ⟨f, t, pr, ttl, id, false, mf, off, s⟩ n))) ∧ Below w.heap.size w w' := by
  have hs : s.size ≤ 4000 := by unfold VLen at hv; omega
  have HV := Lib.hid fun w => valid_any f t pr ttl id false mf off s w (by omega)
  rw [show vlenB f t pr ttl id false mf off s.size = true from decide_eq_true hv] at HV
  have ho : 0 ≤ off ∧ off ≤ 4000 := by unfold VLen at hv; omega
  have hn1 : 1 ≤ n ∧ n ≤ 4000 := by have := hn.out; omega
  clear hv
  obtain ⟨i0, hi, hz0, hz1, hz2⟩ := info_parts infoPk
  refine callsIn_of_wp_marks Tryd.func13 rfl trivial ?_ rfl
  simp only [Tryd.ntmps13, List.size_toArray, List.length_cons, List.length_nil, Nat.reduceAdd, Nat.reduceSub, Array.replicate_succ, Array.replicate_zero, List.push_toArray, List.append_toArray, List.nil_append, List.cons_append]
  have hd1 : decide (size < 68) = false := by simp; omega
  have hd2 : decide (20 + (s.size : Int) ≤ size) = false := by simp; omega
  have Hp := Lib.hid (alloc_new w (.cells #[.int .i64 f, .int .i64 t, .int .i64 pr, .int .i64 ttl, .int .i64 id, .bool false, .bool mf, .int .i64 off, .string s] 26))
  have HB := below_alloc (o := .cells #[.int .i64 f, .int .i64 t, .int .i64 pr, .int .i64 ttl, .int .i64 id, .bool false, .bool mf, .int .i64 off, .string s] 26) (Below.refl w.heap.size w)
  gi_wp2_with fail
  refine ⟨trivial, ?_⟩
  refine (callsIn_wide.2 (HV.out _)).mono ?_
  rintro e w1 ⟨rfl, hb⟩
  have Hp' := Lib.hid (bblock hb Hp.out); clear Hp; have Hp := Hp'; clear Hp'
  have HB' := below_call HB hb; clear HB hb; have HB := HB'; clear HB'; have hz1' := HB.size
  obtain ⟨⟨q0, q1, q2, q3, q4, q5, q6, q7, q8⟩, z0, z1, z2, z3, z4, z5, z6, z7, z8⟩ := cells9 Hp.out
  have lt_p := blk_lt Hp.out
  gi_wp2_with fail
  rw [← hn.out]
  refine ⟨trivial, ?_⟩
  refine (pieces_in Fence.wide 2 trivial rfl f t pr ttl id false mf off s n _).mono ?_
  rintro e w' ⟨rfl, rfl⟩
  gi_wp2_with fail
  have bO : Boxed (((w1.alloc (.cells #[.slice none 0 0] 43)).alloc (.cells #[.int .i64 f, .int .i64 t, .int .i64 pr, .int .i64 ttl, .int .i64 id, .bool false, .bool mf, .int .i64 off, .string s] 26)).alloc (.cells #[.int .i64 (n : Int)] 3)) w1.heap.size 43 (.slice none 0 0) := ((Boxed.new w1 43 (.slice none 0 0)).alloc _).alloc _
  have hBp : (((w1.alloc (.cells #[.slice none 0 0] 43)).alloc (.cells #[.int .i64 f, .int .i64 t, .int .i64 pr, .int .i64 ttl, .int .i64 id, .bool false, .bool mf, .int .i64 off, .string s] 26)).alloc (.cells #[.int .i64 (n : Int)] 3)).heap[w1.heap.size + 1]? = some (.cells #[.int .i64 f, .int .i64 t, .int .i64 pr, .int .i64 ttl, .int .i64 id, .bool false, .bool mf, .int .i64 off, .string s] 26) := block_alloc (alloc_new' (w1.alloc (.cells #[.slice none 0 0] 43)) _ _ (by simp)) _
  have hBn : (((w1.alloc (.cells #[.slice none 0 0] 43)).alloc (.cells #[.int .i64 f, .int .i64 t, .int .i64 pr, .int .i64 ttl, .int .i64 id, .bool false, .bool mf, .int .i64 off, .string s] 26)).alloc (.cells #[.int .i64 (n : Int)] 3)).heap[w1.heap.size + 1 + 1]? = some (.cells #[.int .i64 (n : Int)] 3) := alloc_new' ((w1.alloc (.cells #[.slice none 0 0] 43)).alloc (.cells #[.int .i64 f, .int .i64 t, .int .i64 pr, .int .i64 ttl, .int .i64 id, .bool false, .bool mf, .int .i64 off, .string s] 26)) _ _ (by simp)
  have HB3 : Below w.heap.size w (((w1.alloc (.cells #[.slice none 0 0] 43)).alloc (.cells #[.int .i64 f, .int .i64 t, .int .i64 pr, .int .i64 ttl, .int .i64 id, .bool false, .bool mf, .int .i64 off, .string s] 26)).alloc (.cells #[.int .i64 (n : Int)] 3)) := below_alloc (below_alloc (below_alloc HB))
  have hsz : (((w1.alloc (.cells #[.slice none 0 0] 43)).alloc (.cells #[.int .i64 f, .int .i64 t, .int .i64 pr, .int .i64 ttl, .int .i64 id, .bool false, .bool mf, .int .i64 off, .string s] 26)).alloc (.cells #[.int .i64 (n : Int)] 3)).heap.size = w1.heap.size + 3 := by simp
  clear q0 q1 q2 q3 q4 q5 q6 q7 q8 z0 z1 z2 z3 z4 z5 z6 z7 z8
  generalize ((w1.alloc (.cells #[.slice none 0 0] 43)).alloc (.cells #[.int .i64 f, .int .i64 t, .int .i64 pr, .int .i64 ttl, .int .i64 id, .bool false, .bool mf, .int .i64 off, .string s] 26)).alloc (.cells #[.int .i64 (n : Int)] 3) = W0 at *
  have HSZ := Lib.hid hsz; clear hsz
  refine wpIn_rangeFunc_ownH rfl (by omega) (gf := 39) (lb := #[.pointer (some ⟨w1.heap.size + 1, 0, none⟩), .pointer (some ⟨w1.heap.size + 1 + 1, 0, none⟩)]) rfl trivial (enters_of Tryd.func39 (by kernel_rfl) rfl)
    (pieces_stops Fence.wide 2 trivial rfl (by omega) (w1.heap.size + 1) (w1.heap.size + 1 + 1) ⟨f, t, pr, ttl, id, false, mf, off, s⟩ n hs hn1.1 hn1.2 ho.1 ho.2 W0 hBp hBn) (fun h k => ⟨keepsB_t h.1 k.1, keepsB_t h.2.1 k.2.1, Nat.le_trans h.2.2 k.2.2⟩) (fun W l o o' _ h hc _ => ⟨keepsB_put rfl h hc, keepsB_put rfl h hc, by simp [World.putObj]⟩) (Below.refl _ _) (fun _ => rfl)
    (fun pre W => (∃ v, Boxed W w1.heap.size 43 v ∧ W.ownsRow (w1.heap.size + 3) 26 9 v pre.length (pkCells pre) ∧ True) ∧ Below w.heap.size w W ∧ W0.heap.size ≤ W.heap.size)
    (fun _ _ _ => False)
    (OwnFrom.and (Own.from (holdsRow_own (w1.heap.size + 3) w1.heap.size 43 26 9 (fun pre : List Pk => pre.length) pkCells (fun _ _ => True)) _) (OwnFrom.and (ownFrom_below (Nat.le_refl _) (by have := HSZ.out; omega)) (fun _ _ _ _ hs hg _ => Nat.le_trans hs hg.size)))
    (fun _ _ _ _ _ hs _ _ => hs)
    ⟨⟨_, bO, World.ownsRow_nil _ _ _ _, trivial⟩, HB3, Nat.le_refl _⟩
    (fun x a' W => ∃ Bx, w1.heap.size + 1 + 1 < Bx ∧ W.heap[Bx]? = some (.cells x.cells.toArray 26) ∧ a' = { tmps := #[.agg #[.int .i64 f, .int .i64 t, .int .i64 pr, .int .i64 ttl, .int .i64 id, .bool false, .bool mf, .int .i64 off, .string s], .int .i64 size, .pointer (some ⟨w.heap.size, 0, none⟩), undef, .slice none 0 0, .int .i64 0, .pointer (some ⟨w1.heap.size, 0, none⟩), .pointer (some ⟨Bx, 0, none⟩), .bool false, .agg #[.int .i64 f, .int .i64 t, .int .i64 pr, .int .i64 ttl, .int .i64 id, .bool false, .bool mf, .int .i64 off, .string s], .bool true, .bool false, .bool false, .int .i64 size, .bool false, .bool false, .pointer (some ⟨w.heap.size, 8, none⟩), .string s, .int .i64 s.size, .int .i64 (20 + s.size), .int .i64 size, .bool false, undef, undef, .bool false, .pointer (some ⟨w.heap.size, 5, none⟩), .bool false, .agg #[.int .i64 f, .int .i64 t, .int .i64 pr, .int .i64 ttl, .int .i64 id, .bool false, .bool mf, .int .i64 off, .string s], .int .i64 size, .int .i64 (size - 20), .int .i64 ((size - 20) / 8), .int .i64 (n : Int), .func (.func 39) #[] #[.pointer (some ⟨w1.heap.size + 1, 0, none⟩), .pointer (some ⟨w1.heap.size + 1 + 1, 0, none⟩)], x.val, undef, undef, undef, undef, undef], defers := [] })
    (fun x a' _ W W' row hs hg hr => by
      obtain ⟨Bx, h1, h2, h3⟩ := hs
      refine ⟨Bx, h1, (hg.block Bx (blk_lt h2) (fun e => ?_)).trans h2, h3⟩
      obtain ⟨_, o, ho, hc⟩ := hr _ e.symm
      rw [h2] at ho; cases ho; cases hc) ?assign ?body ?done ?stop
  case assign =>
    rintro l pre x W K ⟨⟨v, hv, hrow, -⟩, hBW, hsW⟩ hK
    dsimp only [Pk.val]
    gi_wp2
    exact hK _ _ ((KeepsOthers.alloc _ _).from _) ⟨fun h => block_alloc h _, fun h => block_alloc h _, by simp⟩ ⟨⟨v, hv.alloc _, hrow.alloc _, trivial⟩, below_alloc hBW, by simp; omega⟩ ⟨W.heap.size, by have := HSZ.out; omega, alloc_new _ _, rfl⟩
  case body =>
    rintro l pre x a' W hl hr ⟨⟨v, hv, hrow, -⟩, hBW, hsW⟩ ⟨Bx, hBx, hX, rfl⟩ hlt
    have hlt2 : pre.length < 4000 := by have := count_le ⟨f, t, pr, ttl, id, false, mf, off, s⟩ n hn1.1; simp only at this; omega
    clear hlt
    have hc := hv.cell
    obtain ⟨⟨q0, q1, q2, q3, q4, q5, q6, q7, q8⟩, z0, z1, z2, z3, z4, z5, z6, z7, z8⟩ := cells9 hX
    have HX := Lib.hid hX; clear hX
    have hszW : w1.heap.size + 3 ≤ W.heap.size := by have := HSZ.out; omega
    gi_wp2_with (gi_at_builtin; refine wpListIn_append_own _ rfl _ _ 43 rfl (w1.heap.size + 3) 26 i0 (.agg #[.int .i64 0, .int .i64 0, .int .i64 0, .int .i64 0, .int .i64 0, .bool false, .bool false, .int .i64 0, .string ⟨#[]⟩]) 9 72 Tryd.underlying43 hi hz0 hz1 hz2 rfl (by decide) _ _ _ rfl (hrow.alloc _) ⟨W.heap.size, 0, none⟩ 1 1 x.cells rfl rfl (World.news_of_block (alloc_new W (.cells x.cells.toArray 26))) (by simp [Pk.cells, Value.oneCell']) (by unfold maxLen; omega) (by omega) (by simp; omega) ?_; intro v' w2 hown' hgrow _; obtain ⟨g', cap', rfl⟩ := ownsRow_succ hown'; obtain ⟨hv1, hv2, hr2, hk2, hb2, hkb, hsz2⟩ := appended2 (n₀ := w.heap.size) hv (by decide) hrow (by omega) (by omega) (by omega) hown' hgrow; have hc1 := hv1.cell; have hf1 := hv1.frozen)
    refine ⟨hk2.from _, ⟨hkb _ _ (by omega) (by omega), hkb _ _ (by omega) (by omega), hsz2⟩, ⟨_, hv2, ?_, trivial⟩, hBW.trans hb2, Nat.le_trans hsW hsz2⟩
    rw [pkCells_snoc, List.length_append]; exact hr2
  case done =>
    rintro D ys W hD rfl ⟨⟨v, hv, hrow, -⟩, hBW, hsW⟩ hK
    have hc := hv.cell
    gi_wp2
    refine ⟨by simp, .inl ⟨_, _, rfl, run_takeDeferred hK, ?_⟩⟩
    refine ⟨_, results_tmp2 rfl _ _ _, v, rfl, ?_, hBW.trans (belowK_b (w := w) (Nat.le_refl _) W D _ _ (by have := HSZ.out; omega) hK rfl rfl)⟩
    have := ownsRow_putObj hrow (.deferred none) hK rfl
    rw [frags_length] at this
    exact ownsRow_mono this (by omega)
  case stop =>
    rintro D c pre W _ _ h _
    exact h.elim
end Go.Proofs.YtpiohahfdekmhaaDoor.Ip
