/-
  The walk of the law ARPDeliversOnce.
-/
import Derived.Test.YtjdoemmfemogmaaArSan
import Derived.Test.YtjdoemmfemogmaaArArgL
import Derived.Test.YtjdoemmfemogmaaArSendF
import Derived.Test.YtjdoemmfemogmaaArL56
import Derived.Test.YtjdoemmfemogmaaArDel0
import Derived.Test.YtjdoemmfemogmaaArSnt
import Derived.Test.YtjdoemmfemogmaaStore
import Derived.Deep.DeepCutAuto
import Derived.Deep.CutBlock
import Derived.Deep.AppendLies
import Derived.Laws.BytesArg
namespace Go.Proofs.Ytjdoemmfemogmaa.Ar
set_option maxRecDepth 100000
open Go.RowKit Go.Proofs.Ytjdoemmfemogmaa.Wire

theorem infoSS : (Try.prog.info? 35).map (fun i => (i.zero, i.size, i.bytes)) = some (some (.slice none 0 0), 1, 24) := by kernel_rfl
/-- the rows say what is held, but for the packets out that are still to be checked -/
def RowsIs (ss : List Sr) (out : List Hp) (A : AL) : Prop := ∀ (k : Nat) (r : Sr), ss[k]? = some r → r.l = remK out (10 + (k : Int)) ++ heldOf A (10 + (k : Int))
theorem conv_two (W : World) (b : Nat) (m0 m1 : Int) (h0 : W.cell? ⟨b, 0, none⟩ = some (.int .u8 m0)) (h1 : W.cell? ⟨b, 1, none⟩ = some (.int .u8 m1)) : ∃ s : ByteArray, s.size = 2 ∧ (convert 34 9 (.slice (some ⟨b, 0, none⟩) 2 2)).run Try.prog W = .ok (.string s) W := by
  refine ⟨⟨#[UInt8.ofNat m0.toNat, UInt8.ofNat m1.toNat]⟩, rfl, ?_⟩
  rw [run_convert_bytes_arg W 34 5 Try.underlying34 Try.underlying5 b 0 2 2 [m0, m1] rfl ?_ 9 Try.underlying9]
  · rfl
  · intro i hi
    match i, hi with
    | 0, _ => exact h0
    | 1, _ => exact h1
theorem wpList_run {P : Program} {w : World} {ops : Array Oper} {rest : List Oper} {o : Oper} {a : Act} {Q : Exit → Act → World → Prop} (hgd : o.guard = none) (s x : Operand) (t : TypeId)
    (ho : o.op = .call { callee := .builtin .append, args := #[s, x], argTypes := #[t, t] }) (v1 v2 : Value) (hs : a.eval s = v1) (hx : a.eval x = v2) {v' : Value} {w' : World} (hr : ∀ ty, (Builtin.append_ #[t, t] ty #[v1, v2]).run P w = .ok v' w') (h : wpList P ops Q rest (a.put o.dst v') w') : wpList P ops Q (o :: rest) a w :=
  wpList_plain hgd fun K hK => by
    have hr := hr o.type
    unfold Oper.wp execOp
    simp only [ho, resolve, invoke, builtin, Sem.run_bind, Sem.run_pure, Result.andThen_ok, List.map_toArray, List.map_cons, List.map_nil, hs, hx, hr]
    exact hK _ _ h
theorem append_ty (P : Program) (W : World) (t ty ty' : TypeId) (v1 v2 : Value) : (Builtin.append_ #[t, t] ty #[v1, v2]).run P W = (Builtin.append_ #[t, t] ty' #[v1, v2]).run P W := rfl
theorem infoStr1 : (Try.prog.info? 9).map (fun i => (i.zero, i.size, i.bytes)) = some (some (.string ⟨#[]⟩), 1, 16) := by kernel_rfl
theorem SRow.max {α : Type} {T : TypeId} {k : Nat} {enc : α → List Value} {W : World} {lo : Nat} {A : Option Addr} {c : Nat} {l : List α} (h : SRow T k enc W lo A c l) : l.length ≤ 9223372036854775807 := by
  rcases h.2 with ⟨e, h0⟩ | ⟨g, cap, cur, e, q1, q2, q3, q4, -⟩
  · omega
  · unfold maxLen at q4; omega
/-- the state ahead of the checks of what was given out -/
def MidS (w : World) (T g : Nat) (nx : Int) (sv : Value) (W : World) : Prop :=
  ∃ (c2 : Tc) (A2 : AL) (ss2 : List Sr) (out : List Hp) (D : Option Addr) (d n : Nat), sv = .slice D n d ∧ out.length = n ∧ HRow W w.heap.size D d out ∧ (∀ q, BK D q → ¬ sOwn g ss2 q) ∧ c2.own = 10 ∧ In64 c2.at_ ∧ Inv8 A2 nx ∧ Snt w g ss2 W ∧ RowsIs ss2 out A2 ∧
    (∀ p ∈ out, 11 ≤ p.to_ ∧ p.to_ ≤ 25 ∧ knownV (look A2 p.to_) = .tuple #[.int .i64 p.mac, .bool (decide (0 < p.mac))]) ∧ OneA w T c2 A2 (sOwn g ss2) W
/-- nothing was given out -/
theorem MidS.none_ {w W : World} {T g : Nat} {nx : Int} {c2 : Tc} {A2 : AL} {ss : List Sr} (h1 : c2.own = 10) (h2 : In64 c2.at_) (hi : Inv8 A2 nx) (hs : Snt w g ss W) (hr : RowsIs ss [] A2) (ho : OneA w T c2 A2 (sOwn g ss) W) : MidS w T g nx (.slice none 0 0) W :=
  ⟨c2, A2, ss, [], none, 0, 0, rfl, rfl, SRow.nil _ _ _ _ _, fun q hq => absurd hq (bk_none q), h1, h2, hi, hs, hr, fun p hp => by simp at hp, ho⟩
theorem MidS.gave {w W W' : World} {T g : Nat} {nx : Int} {c2 : Tc} {A A2 : AL} {ss : List Sr} {out : List Hp} {D : Option Addr} {d : Nat} {K' K0 : Nat → Prop} (hs : Snt w g ss W) (hr : RowsIs ss [] A) (hk : Kept K0 W W') (hK0 : ∀ q, sOwn g ss q → K0 q) (hh : HRow W' W.heap.size D d out) (h1 : c2.own = 10) (h2 : In64 c2.at_) (hi : Inv8 A2 nx) (hg : Gives A A2 out) (ho : OneA w T c2 A2 K' W') (hK : ∀ q, sOwn g ss q → K' q) : MidS w T g nx (.slice D out.length d) W' := by
  have hz : w.heap.size ≤ W.heap.size := by
    have := hs.lt (.inl rfl : sOwn g ss g); omega
  refine ⟨c2, A2, ss, out, D, d, out.length, rfl, rfl, hh.mono hz, fun q hq hq2 => ?_, h1, h2, hi, hs.stand hk hK0, fun k r hkr => ?_, hg.known, ho.more (fun q hq => .inl (hK q hq))⟩
  · have := (hh.bk' hq).1; have := (hs.lt hq2).2; omega
  · have := hr k r hkr
    rw [remK_nil, List.nil_append] at this
    rw [this]; exact hg.held _
/-- a string is appended to a row, and the row's slice stored -/
theorem snt_app {w W : World} {g : Nat} {ss : List Sr} (HS : Snt w g ss W) {kz : Nat} {rr : Sr} (hrr : ss[kz]? = some rr) {ln : Nat} (hln : rr.l.length = ln) (h4 : ln ≤ 1000) (s : ByteArray) :
    ∃ A' c' W', (∀ ty, (Builtin.append_ #[35, 35] ty #[.slice rr.A ln rr.c, .slice (some ⟨W.heap.size, 0, none⟩) 1 1]).run Try.prog (W.alloc (.cells #[.string s] 9)) = .ok (.slice A' (ln + 1) c') W') ∧
      W'.cell? ⟨g, kz, none⟩ = some (.slice rr.A ln rr.c) ∧ W'.frozen? ⟨g, kz, none⟩ = false ∧ Snt w g (ss.set kz ⟨A', c', rr.l ++ [s]⟩) (W'.setCell ⟨g, kz, none⟩ (.slice A' (ln + 1) c')) ∧ Chg (sOwn g ss) W (W'.setCell ⟨g, kz, none⟩ (.slice A' (ln + 1) c')) ∧ (∀ q, sOwn g (ss.set kz ⟨A', c', rr.l ++ [s]⟩) q → sOwn g ss q ∨ W.heap.size ≤ q) := by
  obtain ⟨i0, hi, hz0, hz1, hz2⟩ := info_parts infoStr1
  have HSA := HS.below (below_alloc (o := .cells #[.string s] 9) (Below.refl W.heap.size W))
  have hz := (HS.lt (.inl rfl : sOwn g ss g))
  obtain ⟨A', c', W', hrun, hrow, hg, hw⟩ := ORow.append (P := Try.prog) (HSA.row kz rr hrr) (fun _ => rfl) 35 0 i0 (.string ⟨#[]⟩) 16 Try.underlying35 hi hz0 hz1 hz2 rfl ⟨W.heap.size, 0, none⟩ 1 1 [s] rfl (by omega) (World.news_of_block (heap_alloc_new W _)) (by simp [strC, Value.oneCell']) (by rw [hln]; unfold maxLen; omega) (by rw [hln]; omega) (by simp; omega)
  rw [hln] at hrun
  have hwh : (∀ q, BK A' q → BK rr.A q) ∨ A' = some ⟨(W.alloc (.cells #[.string s] 9)).heap.size, 0, none⟩ := by
    rcases hw with ⟨h1, -⟩ | h1
    · refine .inl (fun q ⟨a, e, e2⟩ => ?_)
      rw [e] at h1
      obtain ⟨a2, e3, e4⟩ := Option.map_eq_some_iff.1 h1.symm
      exact ⟨a2, e3, by rw [e4]; exact e2⟩
    · exact .inr h1
  have hput := HSA.put (r' := ⟨A', c', rr.l ++ [s]⟩) hrr hg hrow hwh
  have hval : (⟨A', c', rr.l ++ [s]⟩ : Sr).val = .slice A' (ln + 1) c' := by
    unfold Sr.val
    rw [List.length_append, hln]; rfl
  rw [hval] at hput
  have hbk : ∀ q, rr.A.map (·.block) = some q → BK rr.A q := fun q e => by
    obtain ⟨a, ha, e2⟩ := Option.map_eq_some_iff.1 e
    exact ⟨a, ha, e2⟩
  obtain ⟨cur, hb, hc⟩ := HSA.blk
  have hSg : W'.heap[g]? = some (.cells cur 35 (0, 0)) := (hg.block g (blk_lt hb) (fun e => HS.ne kz rr hrr g (hbk g e.symm) rfl)).trans hb
  have hcz := cell_of_block hSg (hc kz rr hrr)
  unfold Sr.val at hcz
  rw [hln] at hcz
  refine ⟨A', c', W', fun ty => hrun, hcz.1, hcz.2, hput, ?_, fun q hq => ?_⟩
  · have h1 : Chg (sOwn g ss) W W' := ((Chg.refl _ W).alloc _).trans (Chg.grown hg (fun q e => (.inr ⟨kz, rr, hrr, hbk q e⟩ : sOwn g ss q))) (fun q e => .inl e)
    exact Chg.setCell h1 (.inl (.inl rfl)) _
  · rcases sOwn_put hrr hwh hq with h | h
    · exact .inl h
    · exact .inr (by rw [h]; simp)
/-- the first string of a row is struck out -/
theorem snt_tail {w W : World} {g : Nat} {ss : List Sr} (HS : Snt w g ss W) {kp : Nat} {rr : Sr} (hrr : ss[kp]? = some rr) {s : ByteArray} {rest : List ByteArray} (hl : rr.l = s :: rest) :
    ∃ gr ro cc, rr.A = some ⟨gr, ro, none⟩ ∧ rr.c = cc ∧ W.cell? ⟨gr, ro, none⟩ = some (.string s) ∧ rest.length + 1 ≤ cc ∧
      ∀ ro', (ro' = ro + 1 ∨ ro' = ro ∧ cc = 1) → Snt w g (ss.set kp ⟨some ⟨gr, ro', none⟩, cc - 1, rest⟩) (W.setCell ⟨g, kp, none⟩ (.slice (some ⟨gr, ro', none⟩) rest.length (cc - 1))) ∧ (∀ q, sOwn g (ss.set kp ⟨some ⟨gr, ro', none⟩, cc - 1, rest⟩) q → sOwn g ss q) := by
  obtain ⟨gr, ro, hA, hc, hcap, ht, ht1⟩ := SRw.tail (HS.row kp rr hrr) hl
  have hcl := ORow.cap (HS.row kp rr hrr)
  rw [hl, List.length_cons] at hcl
  refine ⟨gr, ro, rr.c, hA, rfl, hc, hcl, fun ro' hro => ?_⟩
  have hrow : SRw W w.heap.size ⟨some ⟨gr, ro', none⟩, rr.c - 1, rest⟩ := by
    rcases hro with rfl | ⟨rfl, h1⟩
    · exact ht
    · exact ht1 h1
  have hsub : ∀ q, BK (some (⟨gr, ro', none⟩ : Addr)) q → BK rr.A q := fun q ⟨a, e, e2⟩ => by
    cases e
    exact ⟨_, hA, e2⟩
  have hput := HS.put (W1 := W) (r' := ⟨some ⟨gr, ro', none⟩, rr.c - 1, rest⟩) hrr (World.grownBy.refl W _) hrow (.inl hsub)
  refine ⟨hput, fun q hq => ?_⟩
  rcases hq with e | ⟨j, rj, hj, hb⟩
  · exact .inl e
  · rw [List.getElem?_set] at hj
    split at hj
    · split at hj
      · cases hj; exact .inr ⟨kp, rr, hrr, hsub q hb⟩
      · cases hj
    · exact .inr ⟨j, rj, hj, hb⟩
set_option maxHeartbeats 8000000 in
theorem once_law (A : Option Addr) (nt ct : Nat) (tl : List Cl) (w : World) (hA : ArgC w A nt tl) :
    Calls Try.prog 10 #[.slice A nt ct] w fun x w' => x = .returned (.bool true) ∧ Below w.heap.size w w' := by
  have HA := Lib.hid hA
  have hnt := hA.size
  clear hA
  go_enter Try.func10, Try.ntmps10
  go_wp2_with fail
  refine (sanity_any _).mono ?_
  rintro x w1 ⟨rfl, hb1⟩
  go_wp2_with fail
  refine (new_any 10 5 _).mono ?_
  rintro x w2 (⟨-, -, rfl, hw2⟩ | ⟨hb, -, -⟩)
  case inr => rcases hb with hb | hb <;> cases hb
  have HO : Hid (OneA w w1.heap.size ⟨10, 5, false, 0⟩ [] (fun _ => False) w2) := Lib.hid (by rw [hw2]; exact (OneA.ofNew hb1 10 5).more (fun q hq => hq.elim))
  obtain ⟨T, hT⟩ : ∃ T, w1.heap.size = T := ⟨_, rfl⟩
  rw [hT] at HO ⊢
  clear hw2 hT hb1
  have i0 : In64 0 := by unfold In64; omega
  obtain ⟨is, hi, hz0, hz1, hz2⟩ := info_parts infoSS
  have HI := Lib.hid hi; have HZ0 := Lib.hid hz0; have HZ1 := Lib.hid hz1; have HZ2 := Lib.hid hz2
  clear hi hz0 hz1 hz2
  go_wp2_with fail
  go_loopw [7, 8] (fun sv iv wr => ∃ (k : Nat) (D : Option Addr) (d : Nat), k ≤ 24 ∧ iv = .int .i64 (k : Int) ∧ sv = .slice D k d ∧ SRow 35 1 (fun v : Value => [v]) wr w.heap.size D d (List.replicate k (.slice none 0 0)) ∧ OneA w T ⟨10, 5, false, 0⟩ [] (fun q => BK D q) wr) (fun _ iv _ => 24 - (Go.RowKit.intOf iv).toNat)
  case atStart => exact ⟨0, none, 0, by omega, rfl, rfl, SRow.nil _ _ _ _ _, HO.out.more (fun q hq => absurd hq (bk_none q))⟩
  case round =>
    clear HO
    obtain ⟨k, D, d, hk, rfl, rfl, hrow, ho⟩ := hrel
    have HR := Lib.hid hrow; have HO := Lib.hid ho
    clear hrow ho
    obtain ⟨wx, rfl⟩ : ∃ wo : World, wo = wr := ⟨_, rfl⟩
    by_cases hlt : k < 24
    · have d1 : decide ((k : Int) < 24) = true := decide_eq_true (by omega)
      have hrep : List.replicate (k + 1) (Value.slice none 0 0) = List.replicate k (.slice none 0 0) ++ [.slice none 0 0] := List.replicate_succ'
      have HREP := Lib.hid hrep
      have hlen : (List.replicate k (Value.slice none 0 0)).length = k := by simp
      have hown : wx.ownsRow w.heap.size 35 1 (.slice D k d) k ((List.replicate k (Value.slice none 0 0)).flatMap fun v => [v]) := by have := HR.out; unfold SRow at this; rw [hlen] at this; exact this
      have HOW := Lib.hid hown
      have hz := HO.out.bel.size
      clear hrep hlen hown
      go_wp2_with (at_builtin; refine wpList_append_lies _ rfl (.tmp 35) (.tmp 36) 68 rfl w.heap.size 35 is (.slice none 0 0) 1 24 Try.underlying68 HI.out HZ0.out HZ1.out HZ2.out rfl (by decide) (.slice D k d) k _ rfl (HOW.out.alloc _) ⟨wx.heap.size, 0, none⟩ 1 1 [.slice none 0 0] rfl rfl (World.news_of_block (heap_alloc_new wx _)) (by simp [Value.oneCell']) (by omega) (by unfold maxLen; omega) (by omega) (by simp; omega) (wx.heap.size + 1) (by simp) ?_; intro g2 cap w7 hown2 hgrow hat hlt2)
      have hch : Chg (fun q => BK D q) wx w7 := ((Chg.refl _ wx).alloc _).trans (Chg.grown hgrow (fun q e => ob_bk e)) (fun q e => .inl e)
      have hone := ((HO.out.more (K' := fun q => BK D q ∨ wx.heap.size ≤ q) (fun q hq => hq)).other hch (fun q hq => ⟨.inl hq, (HR.out.bk' hq).1⟩)).more (K' := fun q => BK (some (⟨g2, 0, none⟩ : Addr)) q) (fun q ⟨a, e, e2⟩ => by
        cases e
        subst e2
        rcases hat with r | r
        · exact .inl (.inl (ob_bk r))
        · exact .inl (.inr (by dsimp only; omega)))
      refine ⟨⟨k + 1, some ⟨g2, 0, none⟩, cap, by omega, by go_num, rfl, ?_, hone⟩, by simp [Go.RowKit.intOf]; omega⟩
      rw [HREP.out]
      exact SRow.app (x := Value.slice none 0 0) (by rw [List.length_replicate]; exact hown2)
    · obtain rfl : k = 24 := by omega
      have d1 : decide (((24 : Nat) : Int) < 24) = false := by decide
      obtain ⟨g, rfl, -⟩ := HR.out.addr (by simp)
      have HS := Lib.hid (Snt.start HR.out)
      obtain ⟨S, hS⟩ : ∃ S, g = S := ⟨_, rfl⟩
      subst hS
      have HO1 := Lib.hid (HO.out.more (K' := sOwn g (List.replicate 24 ⟨none, 0, []⟩)) (fun q hq => .inl (by
        rcases hq with e | ⟨k, r, hk, hb⟩
        · exact ⟨_, rfl, e.symm⟩
        · rw [List.getElem?_replicate] at hk
          split at hk
          · cases hk; exact absurd hb (bk_none q)
          · cases hk)))
      have HRI : Hid (RowsIs (List.replicate 24 ⟨none, 0, []⟩) [] []) := Lib.hid (fun k r hk => by
        rw [List.getElem?_replicate] at hk
        split at hk
        · cases hk; rfl
        · cases hk)
      clear HO HR HI HZ0 HZ1 HZ2
      generalize List.replicate 24 (⟨none, 0, []⟩ : Sr) = ss0 at *
      go_wp2_with fail
      go_loopw [6, 9] (fun nv iv wr => ∃ (k : Nat) (nw : Int) (c : Tc) (B : AL) (ss : List Sr), k ≤ nt ∧ k ≤ 60 ∧ iv = .int .i64 (k : Int) ∧ nv = .int .i64 nw ∧ (0 ≤ nw ∧ nw ≤ 5 * (k : Int)) ∧ c.own = 10 ∧ In64 c.at_ ∧ Inv8 B nw ∧ Snt w g ss wr ∧ RowsIs ss [] B ∧ OneA w T c B (sOwn g ss) wr) (fun _ iv _ => 60 - (Go.RowKit.intOf iv).toNat)
      case atStart => exact ⟨0, 0, ⟨10, 5, false, 0⟩, [], ss0, by omega, by omega, rfl, rfl, ⟨by omega, by omega⟩, rfl, i0, Inv8.nil 0, HS.out, HRI.out, HO1.out⟩
      case round =>
        clear HS HRI HO1
        obtain ⟨k, nw, c, B, ss, hk, hk60, rfl, rfl, hnw, hc1, hc3, hinv, hsn, hri, ho⟩ := hrel
        have HO := Lib.hid ho; have HC1 := Lib.hid hc1; have HC3 := Lib.hid hc3; have HI := Lib.hid hinv; have HS := Lib.hid hsn; have HRI := Lib.hid hri
        clear ho hc1 hc3 hinv hsn hri
        obtain ⟨wy, rfl⟩ : ∃ wo : World, wo = wr := ⟨_, rfl⟩
        obtain ⟨hnw0, hnw1⟩ := hnw
        by_cases hend : k = nt ∨ k = 60
        · as_aux_lemma =>
          have hpair : (decide ((k : Int) < (nt : Int)) = false ∧ ¬ k < nt) ∨ (k < nt ∧ decide ((k : Int) < (nt : Int)) = true ∧ decide ((k : Int) < 60) = false ∧ ¬ k < 60) := by
            by_cases q : k < nt
            · exact .inr ⟨q, decide_eq_true (by omega), decide_eq_false (by omega), by omega⟩
            · exact .inl ⟨decide_eq_false (by omega), q⟩
          clear hend
          have hsum : sum24 B 24 = sumA B := sum24_all HI.out.inv.nod (fun x hx => by have := HI.out.key x hx; omega)
          have HSUM := Lib.hid hsum
          have HSZ := Lib.hid (HO.out.sizes B.length (sumA B) rfl rfl HI.out.inv.le)
          clear hsum
          generalize B.length = n2 at *
          rcases hpair with ⟨d1, q1⟩ | ⟨q1, d1, d2, q2⟩
          all_goals
            go_wp2_with fail
            all_goals first | (exfalso; omega) | skip
            go_loopw [22, 23] (fun nv jv wr => ∃ (j : Nat) (z : Int), j ≤ 24 ∧ jv = .int .i64 (j : Int) ∧ nv = .int .i64 z ∧ z = sum24 B j ∧ (0 ≤ z ∧ z ≤ 4 * (j : Int)) ∧ wr = wy) (fun _ jv _ => 24 - (Go.RowKit.intOf jv).toNat)
            case atStart => exact ⟨0, 0, by omega, rfl, rfl, rfl, by omega, rfl⟩
            case round =>
              obtain ⟨j, z, hj, rfl, rfl, hz, hzb, rfl⟩ := hrel
              have HZ := Lib.hid hz
              clear hz
              by_cases hj2 : j < 24
              · have d5 : decide ((j : Int) < 24) = true := decide_eq_true (by omega)
                obtain ⟨r, hr⟩ := HS.out.at_ hj2
                have hcell := (HS.out.cell hr).1
                have hrl := HRI.out j r hr
                rw [remK_nil, List.nil_append] at hrl
                have hl4 : r.l.length ≤ 4 := by
                  rw [hrl]
                  unfold heldOf
                  cases hl : look B (10 + (j : Int)) with
                  | none => simp
                  | some v =>
                    have he := HI.out.inv.ev _ (look_mem hl)
                    cases v with
                    | inc held sent first last => exact he.1.2
                    | res mac since used => simp
                have hnext : z + (r.l.length : Int) = sum24 B (j + 1) := by
                  rw [HZ.out, hrl]; rfl
                have HNX := Lib.hid hnext
                unfold Sr.val at hcell
                clear hnext hrl hr
                generalize r.l.length = ln at *
                have hw5 : IntKind.i64.wrap (z + (ln : Int)) = z + (ln : Int) := IntWalk.i64_in _ (by omega)
                have j0 : (0 : Int) ≤ (j : Int) := by omega
                go_wp2_with fail
                all_goals first | (exfalso; omega) | skip
                exact ⟨⟨j + 1, _, by omega, by go_num, rfl, HNX.out, by omega, trivial⟩, by simp [Go.RowKit.intOf]; omega⟩
              · obtain rfl : j = 24 := by omega
                have d5 : decide (((24 : Nat) : Int) < 24) = false := by decide
                have hzs : z = sumA B := HZ.out.trans HSUM.out
                subst hzs
                clear HZ
                go_wp2_with fail
                all_goals first | (exfalso; omega) | skip
                refine HSZ.out.mono ?_
                rintro x9 w9 ⟨rfl, hb9⟩
                have HO9 := Lib.hid (HO.out.below hb9)
                clear hb9
                go_wp2_with fail
                go_ret
                exact ⟨rfl, HO9.out.bel⟩
        · have d1 : decide ((k : Int) < (nt : Int)) = true := decide_eq_true (by omega)
          have d2 : decide ((k : Int) < 60) = true := decide_eq_true (by omega)
          have q1 : k < nt := by omega
          have q2 : k < 60 := by omega
          have k0 : (0 : Int) ≤ (k : Int) := by omega
          have k1 : (k : Int) < (nt : Int) := by omega
          obtain ⟨ab, ao, x, hAe, htl, hab, hx, c0, c1, c2, c3, c4, c5, c6, c7, c8, c9, c10, c11⟩ := (HA.out.below HO.out.bel).at_ k (by omega)
          subst hAe
          clear hend
          have P6 := Lib.hid (fun W => pick_any x.ti 6 W hx.2.2.2.2.2.2.1 (by omega) (by omega))
          have b6 := pick_lt x.ti 6 (by omega)
          generalize pick x.ti 6 = z6 at *
          have hw6 : IntKind.i64.wrap (nw + z6) = nw + z6 := IntWalk.i64_in _ (by omega)
          obtain ⟨nx, hnx⟩ : ∃ nx, nw + z6 = nx := ⟨_, rfl⟩
          replace hw6 := hw6.trans hnx
          have hnx0 : 0 ≤ nx ∧ nw ≤ nx ∧ nx ≤ 5 * ((k : Int) + 1) := by omega
          clear hnx b6
          have P16 := Lib.hid (fun W => pick_any x.ad 16 W hx.2.1 (by omega) (by omega))
          have b16 := pick_lt x.ad 16 (by omega)
          obtain ⟨kz, hkz⟩ : ∃ kz : Nat, pick x.ad 16 = (kz : Int) := ⟨(pick x.ad 16).toNat, by omega⟩
          rw [hkz] at P16 b16
          have hw16 : IntKind.i64.wrap (10 + (kz : Int)) = 10 + (kz : Int) := IntWalk.i64_in _ (by omega)
          obtain ⟨az, haz⟩ : ∃ az, 10 + (kz : Int) = az := ⟨_, rfl⟩
          replace hw16 := hw16.trans haz
          have hwkz : IntKind.i64.wrap (az - 10) = (kz : Int) := (IntWalk.i64_in _ (by omega)).trans (by omega)
          have haz0 : 10 ≤ az ∧ az ≤ 25 := by omega
          have HAZ := Lib.hid haz
          have hkz24 : kz < 24 := by omega
          clear haz hkz b16
          obtain ⟨kk, hkk⟩ : ∃ kk : Int, ((x.kd : Nat) : Int) = kk := ⟨_, rfl⟩
          have hkx := hx.1
          have kk0 : (0 : Int) ≤ kk := by omega
          have kk1 : kk < 256 := by omega
          rw [hkk] at c0
          have HX := Lib.hid hx
          clear hkk hx
          have HXB := Lib.hid (alloc_new wy (.cells #[.int .u8 kk, .int .i64 x.ad, .int .i64 x.mc, .int .i64 x.to_, .int .i64 x.op, .string x.s, .int .i64 x.ti, .int .i64 x.a0, .int .i64 x.a1, .int .i64 x.a2, .int .i64 x.a3, .int .i64 x.a4] 25))
          have HO6 := Lib.hid ((HO.out.more (K' := fun q => sOwn g ss q ∨ q = wy.heap.size) (fun q e => e.elim .inl (fun e => .inr (by omega)))).below ((Below.refl wy.heap.size wy).alloc (Nat.le_refl _) (.cells #[.int .u8 kk, .int .i64 x.ad, .int .i64 x.mc, .int .i64 x.to_, .int .i64 x.op, .string x.s, .int .i64 x.ti, .int .i64 x.a0, .int .i64 x.a1, .int .i64 x.a2, .int .i64 x.a3, .int .i64 x.a4] 25)))
          have HS6 := Lib.hid (HS.out.below ((Below.refl wy.heap.size wy).alloc (Nat.le_refl _) (.cells #[.int .u8 kk, .int .i64 x.ad, .int .i64 x.mc, .int .i64 x.to_, .int .i64 x.op, .string x.s, .int .i64 x.ti, .int .i64 x.a0, .int .i64 x.a1, .int .i64 x.a2, .int .i64 x.a3, .int .i64 x.a4] 25)))
          obtain ⟨xb, hxb⟩ : ∃ xb, wy.heap.size = xb := ⟨_, rfl⟩
          rw [hxb] at HXB HO6
          have HXE := Lib.hid hxb
          clear hxb
          go_upto_region 13 with fail
          rw [HXE.out]
          generalize wy.alloc (.cells #[.int .u8 kk, .int .i64 x.ad, .int .i64 x.mc, .int .i64 x.to_, .int .i64 x.op, .string x.s, .int .i64 x.ti, .int .i64 x.a0, .int .i64 x.a1, .int .i64 x.a2, .int .i64 x.a3, .int .i64 x.a4] 25) = w6 at *
          clear c0 c1 c2 c3 c4 c5 c6 c7 c8 c9 c10 c11 HO HS
          have e0 := (cell_of_block (k := 0) HXB.out rfl).1
          have e1 := (cell_of_block (k := 1) HXB.out rfl).1
          have e6 := (cell_of_block (k := 6) HXB.out rfl).1
          have hxl := blk_lt HXB.out
          go_upto_region 17 with (first | (go_at_call 18; (with_reducible refine (P6.out _).mono ?_); rintro e9 w' ⟨rfl, rfl⟩) | (go_at_call 18; (with_reducible refine (P16.out _).mono ?_); rintro e9 w' ⟨rfl, rfl⟩))
          have hr4 : kk % 4 = 0 ∨ kk % 4 = 1 ∨ (kk % 4 = 2 ∨ kk % 4 = 3) := by omega
          go_upto_block 4 with fail
          generalize kk % 4 = r4 at *
          go_cut [13] (fun sv wv => MidS w T g nx sv wv)
          case first =>
            as_aux_lemma =>
            have hxx := HX.out
            unfold Cl.ok at hxx
            have hin : In64 nx := by unfold In64; omega
            have HI6 := Lib.hid (HI.out.mono hnx0.2.1)
            clear e0 e1 e6
            rcases hr4 with rfl | rfl | hr4
            · have PM := Lib.hid (fun W => message_any kk x.ad x.mc x.to_ x.op x.s x.ti x.a0 x.a1 x.a2 x.a3 x.a4 W hxx.2.1 hxx.2.2.1 hxx.2.2.2.1 hxx.2.2.2.2.1)
              obtain ⟨r, hr⟩ : ∃ r, recvA c B nx (msgC x.ad x.mc x.to_ x.op) = r := ⟨_, rfl⟩
              have h8 := recv8 HI6.out hnx0.1 c (msgC x.ad x.mc x.to_ x.op)
              have hrc := recv_c c B nx (msgC x.ad x.mc x.to_ x.op) hin HC3.out
              rw [hr] at h8 hrc
              obtain ⟨c3, B3, said, out⟩ := r
              dsimp only at h8 hrc
              generalize msgC x.ad x.mc x.to_ x.op = M at *
              obtain ⟨m0, m1, m2, m3, m4⟩ := M
              have HR := Lib.hid hr; have H8 := Lib.hid h8; have HRC := Lib.hid hrc
              clear hr h8 hrc
              have e0 := (cell_of_block (k := 0) HXB.out rfl).1
              have e1 := (cell_of_block (k := 1) HXB.out rfl).1
              have e2 := (cell_of_block (k := 2) HXB.out rfl).1
              have e3 := (cell_of_block (k := 3) HXB.out rfl).1
              have e4 := (cell_of_block (k := 4) HXB.out rfl).1
              have e5 := (cell_of_block (k := 5) HXB.out rfl).1
              have e6 := (cell_of_block (k := 6) HXB.out rfl).1
              have e7 := (cell_of_block (k := 7) HXB.out rfl).1
              have e8 := (cell_of_block (k := 8) HXB.out rfl).1
              have e9 := (cell_of_block (k := 9) HXB.out rfl).1
              have e10 := (cell_of_block (k := 10) HXB.out rfl).1
              have e11 := (cell_of_block (k := 11) HXB.out rfl).1
              go_wp2_with fail
              all_goals first | (exfalso; omega) | skip
              clear e0 e1 e2 e3 e4 e5 e6 e7 e8 e9 e10 e11
              refine (PM.out _).mono ?_
              rintro x9 w8 ⟨rfl, hb8⟩
              have HO8 := Lib.hid (HO6.out.below hb8)
              have HS8 := Lib.hid (HS6.out.below hb8)
              clear hb8
              go_wp2_with fail
              refine (HO8.out.recv nx m0 m1 m2 m3 m4 c3 B3 said out HR.out hin HC3.out).mono ?_
              rintro x9 w9 ⟨B9, k9, D9, d9, rfl, -, hh, ho9, hkp⟩
              have HMID := Lib.hid (MidS.gave (nx := nx) HS8.out HRI.out hkp (fun q hq => .inl hq) hh (HRC.out.1.trans HC1.out) HRC.out.2.2 H8.out.1 H8.out.2 ho9 (fun q hq => .inl ⟨.inl hq, (HS8.out.lt hq).2⟩))
              clear hh ho9 hkp
              obtain ⟨no, hno⟩ : ∃ no, out.length = no := ⟨_, rfl⟩
              rw [hno] at HMID ⊢
              clear hno
              go_wp2_with fail
              go_meet
              exact HMID.out
            · obtain ⟨r, hr⟩ : ∃ r, tickA c B nx = r := ⟨_, rfl⟩
              have h8 := tick8 HI6.out hnx0.1 c
              rw [hr] at h8
              obtain ⟨B3, said, out⟩ := r
              dsimp only at h8
              have HR := Lib.hid hr; have H8 := Lib.hid h8
              clear hr h8
              go_wp2_with fail
              all_goals first | (exfalso; omega) | skip
              refine (HO6.out.tick nx B3 said out HR.out hin HI6.out.inv.le HI6.out.inv.in64 HI6.out.inv.some_).mono ?_
              rintro x9 w9 ⟨B9, k9, D9, d9, rfl, -, hh, ho9, hkp⟩
              have HMID := Lib.hid (MidS.gave (nx := nx) HS6.out HRI.out hkp (fun q hq => .inl hq) hh HC1.out HC3.out H8.out.1 H8.out.2 ho9 (fun q hq => .inl ⟨.inl hq, (HS6.out.lt hq).2⟩))
              clear hh ho9 hkp
              obtain ⟨no, hno⟩ : ∃ no, out.length = no := ⟨_, rfl⟩
              rw [hno] at HMID ⊢
              clear hno
              go_wp2_with fail
              go_meet
              exact HMID.out
            · as_aux_lemma =>
              have er0 : (r4 == 0) = false := by rw [beq_eq_false_iff_ne]; omega
              have er1 : (r4 == 1) = false := by rw [beq_eq_false_iff_ne]; omega
              clear hr4
              obtain ⟨ss9, hss9, hcv⟩ := conv_two (w6.alloc (.cells #[.int .u8 (k : Int), .int .u8 (kz : Int)] 5)) w6.heap.size (k : Int) (kz : Int) (cell_of_block (alloc_new w6 _) rfl).1 (cell_of_block (k := 1) (alloc_new w6 _) rfl).1
              have HO8 := Lib.hid (HO6.out.below ((Below.refl w6.heap.size w6).alloc (Nat.le_refl _) (.cells #[.int .u8 (k : Int), .int .u8 (kz : Int)] 5)))
              have HS8 := Lib.hid (HS6.out.below ((Below.refl w6.heap.size w6).alloc (Nat.le_refl _) (.cells #[.int .u8 (k : Int), .int .u8 (kz : Int)] 5)))
              have HSS9 := Lib.hid hss9
              clear hss9
              go_upto_region 19 with fail
              clear hcv
              generalize w6.alloc (.cells #[.int .u8 (k : Int), .int .u8 (kz : Int)] 5) = w8 at *
              obtain ⟨rr, hrr⟩ := HS8.out.at_ hkz24
              have hcell := (HS8.out.cell hrr).1
              have hrl := HRI.out kz rr hrr
              rw [remK_nil, List.nil_append, HAZ.out] at hrl
              have HRL := Lib.hid hrl; have HRR := Lib.hid hrr
              unfold Sr.val at hcell
              clear hrl hrr
              obtain ⟨ln, hln⟩ : ∃ ln, rr.l.length = ln := ⟨_, rfl⟩
              have hkz0 : (0 : Int) ≤ (kz : Int) := by omega
              have hkz1 : (kz : Int) < 24 := by omega
              have HLN := Lib.hid hln
              rw [hln] at hcell
              clear hln
              by_cases hcont : az = 10 ∨ ln = 4
              · have hpair : (az == 10) = true ∨ ((az == 10) = false ∧ ((ln : Int) == 4) = true ∧ ln = 4) := by
                  by_cases q : az = 10
                  · exact .inl (beq_iff_eq.2 q)
                  · have q2 := hcont.resolve_left q
                    exact .inr ⟨beq_eq_false_iff_ne.2 q, by rw [q2]; rfl, q2⟩
                have HO9 := Lib.hid (HO8.out.more (K' := sOwn g ss) (fun q hq => .inl (.inl hq)))
                clear hcont
                rcases hpair with eaz | ⟨eaz, eln, rfl⟩
                all_goals
                  go_wp2_with fail
                  all_goals first | (exfalso; omega) | skip
                  go_roundw
                  case rel =>
                    repeat apply Exists.intro
                    refine ⟨?_, rfl⟩
                    exact ⟨k + 1, nx, c, B, ss, by omega, by omega, by go_num, rfl, by omega, HC1.out, HC3.out, HI6.out, HS8.out, HRI.out, HO9.out⟩
                  case measure => simp [Go.RowKit.intOf]; omega
              · have eaz : (az == 10) = false := beq_eq_false_iff_ne.2 (fun q => hcont (.inl q))
                have eln : ((ln : Int) == 4) = false := beq_eq_false_iff_ne.2 (fun q => hcont (.inr (by omega)))
                have eln2 : ¬ ln = 4 := fun q => hcont (.inr q)
                have haz11 : 11 ≤ az ∧ az ≤ 25 := by omega
                have hl4 : (heldOf B az).length < 4 := by
                  rw [← HRL.out, HLN.out]
                  have : rr.l.length ≤ 4 := by
                    rw [HRL.out]
                    unfold heldOf
                    cases hl : look B az with
                    | none => simp
                    | some v =>
                      have he := HI.out.inv.ev _ (look_mem hl)
                      cases v with
                      | inc held sent first last => exact he.1.2
                      | res mac since used => simp
                  rw [HLN.out] at this; omega
                obtain ⟨A', mac, said, hse, h8, hcase⟩ := send8 HI6.out hnx0.1 c HC1.out az haz11 ss9 (by rw [HSS9.out]; omega) hl4
                have hln4 : ln ≤ 1000 := by rw [← HLN.out, HRL.out]; omega
                have HSE := Lib.hid hse; have H8 := Lib.hid h8; have HCASE := Lib.hid hcase
                clear hse h8 hcase hl4 hcont
                go_wp2_with fail
                all_goals first | (exfalso; omega) | skip
                refine (HO8.out.sendF nx az ss9 A' mac said 0 HSE.out (by rw [HSS9.out]; omega) hin HI6.out.inv.le HI6.out.inv.in64).mono ?_
                rintro x9 w9 ⟨B9, k9, rfl, -, ho9, hkp⟩
                have HS9 := Lib.hid (HS8.out.stand hkp (fun q hq => .inl hq))
                have HO9 := Lib.hid (ho9.more (K' := sOwn g ss) (fun q hq => .inl (.inl ⟨.inl hq, (HS8.out.lt hq).2⟩)))
                clear ho9 hkp hcell
                have hcell := (HS9.out.cell HRR.out).1
                unfold Sr.val at hcell
                rw [HLN.out] at hcell
                rcases HCASE.out with ⟨hm1, rfl, hh⟩ | ⟨rfl, hsd, hh1, hh2⟩
                · have em : (mac == 0) = false := beq_eq_false_iff_ne.2 (by omega)
                  have HHH := Lib.hid hh
                  have HRI9 : Hid (RowsIs ss [] A') := Lib.hid (fun k r hk => by rw [HHH.out]; exact HRI.out k r hk)
                  clear hh
                  go_wp2_with fail
                  all_goals first | (exfalso; omega) | skip
                  go_meet
                  exact MidS.none_ HC1.out HC3.out H8.out HS9.out HRI9.out HO9.out
                · have hsl : (ln = 0 ∧ said.length = 1) ∨ (1 ≤ ln ∧ said.length = 0) := by
                    rcases hsd with ⟨q1, q2⟩ | ⟨q1, q2⟩
                    · exact .inl ⟨by rw [← HLN.out, HRL.out, q1]; rfl, by rw [q2]; rfl⟩
                    · exact .inr ⟨by rw [← HLN.out, HRL.out]; exact List.length_pos_iff.2 q1, by rw [q2]; rfl⟩
                  have HH1 := Lib.hid hh1; have HH2 := Lib.hid hh2
                  generalize said.length = sn at *
                  clear hsd hh1 hh2
                  have HSL := Lib.hid hsl
                  have e22 : (ln = 0 ∧ sn = 1) ∨ (sn = 0 ∧ ((ln : Int) == 0) = false ∧ ¬ ln = 0) := by
                    rcases hsl with q | ⟨q1, q2⟩
                    · exact .inl q
                    · exact .inr ⟨q2, beq_eq_false_iff_ne.2 (by omega), by omega⟩
                  clear hsl
                  rcases e22 with ⟨rfl, rfl⟩ | ⟨rfl, e23, e24⟩
                  all_goals
                    go_upto_region 24 with fail
                    all_goals first | (exfalso; omega) | skip
                    obtain ⟨An, cn, w10, hrun, qc, zc, hput, hch, hown⟩ := snt_app HS9.out HRR.out HLN.out hln4 ss9
                    have HPUT := Lib.hid hput
                    have HO10 := Lib.hid (((HO9.out.more (K' := fun q => sOwn g ss q ∨ w9.heap.size ≤ q) (fun q hq => hq)).other hch (fun q hq => ⟨.inl hq, (HS9.out.lt hq).1⟩)).more (K' := sOwn g (ss.set kz ⟨An, cn, rr.l ++ [ss9]⟩)) (fun q hq => .inl (hown q hq)))
                    have HRI10 : Hid (RowsIs (ss.set kz ⟨An, cn, rr.l ++ [ss9]⟩) [] A') := Lib.hid (fun j r hj => by
                      rw [List.getElem?_set] at hj
                      rw [remK_nil, List.nil_append]
                      split at hj
                      · rename_i e
                        split at hj
                        · cases hj
                          subst e
                          rw [HAZ.out, HH1.out, ← HRL.out]
                        · cases hj
                      · rename_i e
                        rw [HH2.out _ (by rw [← HAZ.out]; omega)]
                        have := HRI.out j r hj
                        rw [remK_nil, List.nil_append] at this
                        exact this)
                    clear hput hch hown
                    go_wp2_with (at_builtin; refine wpList_run rfl (.tmp 112) (.tmp 114) 35 rfl _ _ rfl rfl hrun ?_)
                    all_goals first | (exfalso; omega) | skip
                    go_meet
                    exact MidS.none_ HC1.out HC3.out H8.out HPUT.out HRI10.out HO10.out
          case rest =>
          as_aux_lemma =>
          clear e0 e1 e6 hr4 HO6 HS6 HXB HI HRI P6 P16
          obtain ⟨c2, A2, ss2, out, D, dd, no, rfl, hno, hh, hap, hc1, hc3, hi2, hs2, hr2, hkn, ho2⟩ := hcut
          obtain ⟨w7, rfl⟩ : ∃ wo : World, wo = wc := ⟨_, rfl⟩
          have HNO := Lib.hid hno; have HH := Lib.hid hh; have HAP := Lib.hid hap; have HC12 := Lib.hid hc1; have HC32 := Lib.hid hc3; have HI2 := Lib.hid hi2; have HKN := Lib.hid hkn
          have hmax := hh.max
          rw [hno] at hmax
          clear hno hh hap hc1 hc3 hi2 hkn
          go_wp2_with fail
          go_loopw [18] (fun jv wr => ∃ (j : Nat) (ss3 : List Sr), j ≤ no ∧ jv = .int .i64 (j : Int) ∧ HRow wr w.heap.size D dd out ∧ (∀ q, BK D q → ¬ sOwn g ss3 q) ∧ Snt w g ss3 wr ∧ RowsIs ss3 (out.drop j) A2 ∧ OneA w T c2 A2 (sOwn g ss3) wr) (fun jv _ => no - (Go.RowKit.intOf jv).toNat)
          case atStart => exact ⟨0, ss2, by omega, rfl, HH.out, HAP.out, hs2, hr2, ho2⟩
          case round =>
            clear HH HAP
            obtain ⟨j, ss3, hj, rfl, hh, hap, hs3, hr3, ho3⟩ := hrel
            have HH := Lib.hid hh; have HAP := Lib.hid hap; have HS3 := Lib.hid hs3; have HR3 := Lib.hid hr3; have HO3 := Lib.hid ho3
            clear hh hap hs3 hr3 ho3
            obtain ⟨wz, rfl⟩ : ∃ wo : World, wo = wr := ⟨_, rfl⟩
            by_cases hjn : j < no
            · have d7 : decide ((j : Int) < (no : Int)) = true := decide_eq_true (by omega)
              have j0 : (0 : Int) ≤ (j : Int) := by omega
              have j1 : (j : Int) < (no : Int) := by omega
              obtain ⟨⟨tz, mz, sz⟩, hp⟩ : ∃ p, out[j]? = some p := ⟨_, List.getElem?_eq_getElem (by rw [HNO.out]; exact hjn)⟩
              obtain ⟨gd, rfl, -⟩ := HH.out.addr (by rw [HNO.out]; omega)
              obtain ⟨hp1, hp2, hpk⟩ := HKN.out _ (List.mem_of_getElem? hp)
              dsimp only at hp1 hp2 hpk
              obtain ⟨kp, hkp⟩ : ∃ kp : Nat, tz = 10 + (kp : Int) := ⟨(tz - 10).toNat, by omega⟩
              have hkp24 : kp < 24 := by omega
              have hwz : IntKind.i64.wrap (tz - 10) = (kp : Int) := (IntWalk.i64_in _ (by omega)).trans (by omega)
              have HKP := Lib.hid hkp
              have hdrop : out.drop j = ⟨tz, mz, sz⟩ :: out.drop (j + 1) := by
                obtain ⟨hl, e⟩ := List.getElem?_eq_some_iff.1 hp
                rw [← e]; exact List.drop_eq_getElem_cons hl
              obtain ⟨rr, hrr⟩ := HS3.out.at_ hkp24
              have hrl := HR3.out kp rr hrr
              rw [hdrop, ← hkp] at hrl
              have hrl2 : rr.l = sz :: (remK (out.drop (j + 1)) tz ++ heldOf A2 tz) := by
                rw [hrl, show remK ((⟨tz, mz, sz⟩ : Hp) :: out.drop (j + 1)) tz = sz :: remK (out.drop (j + 1)) tz from remK_cons ⟨tz, mz, sz⟩ _]; rfl
              have HDROP := Lib.hid hdrop
              obtain ⟨rest, hrest⟩ : ∃ rest, remK (out.drop (j + 1)) tz ++ heldOf A2 tz = rest := ⟨_, rfl⟩
              have HREST := Lib.hid hrest
              rw [hrest] at hrl2
              obtain ⟨ln, hln⟩ : ∃ ln, ln = rest.length + 1 := ⟨_, rfl⟩
              have HLN := Lib.hid hln
              have hll : rr.l.length = ln := by rw [hrl2, hln]; rfl
              have HRR := Lib.hid hrr
              obtain ⟨bb, hbb⟩ : ∃ bb, decide (0 < mz) = bb := ⟨_, rfl⟩
              rw [hbb] at hpk
              have HHq := Lib.hid (HH.out.below (below_drewN (Below.refl wz.heap.size wz) 1))
              have ln1 : (0 : Int) < (ln : Int) := by omega
              have eln : ((ln : Int) == 0) = false := beq_eq_false_iff_ne.2 (by omega)
              have eln2 : ¬ ln = 0 := by omega
              have hkp0 : (0 : Int) ≤ (kp : Int) := by omega
              have hkp1 : (kp : Int) < 24 := by omega
              have ekp0 : decide ((kp : Int) < 0) = false := decide_eq_false (by omega)
              have ekp1 : decide ((23 : Int) < (kp : Int)) = false := decide_eq_false (by omega)
              have hkp3 : ¬ (23 : Int) < (kp : Int) := by omega
              have HRL2 := Lib.hid hrl2; have HHP := Lib.hid hp; have HLL := Lib.hid hll; have HPK := Lib.hid hpk
              obtain ⟨y0, y1, y2⟩ := HRow.cells HH.out hp
              dsimp only at y0 y1 y2
              obtain ⟨gr, ro, cc, hrA, hrC, hrc, hcap, -⟩ := snt_tail HS3.out hrr hrl2
              have hcell := (HS3.out.cell hrr).1
              unfold Sr.val at hcell
              rw [hll, hrA, hrC] at hcell
              clear hdrop hrl hrl2 hrest hln hrr hp hll hkp hrA hrC hcap HHq hpk
              go_upto_region 35 with fail
              go_quiet (fail)
              have HS4 := Lib.hid (HS3.out.below (below_drewN (Below.refl wz.heap.size wz) nq))
              have HO4 := Lib.hid (HO3.out.below (below_drewN (Below.refl wz.heap.size wz) nq))
              have HH4 := Lib.hid (HH.out.below (below_drewN (Below.refl wz.heap.size wz) nq))
              clear y0 y1 y2 hcell hrc HS3 HO3 HH
              generalize wz.drewN nq = wq at *
              obtain ⟨y0, y1, y2⟩ := HRow.cells HH4.out HHP.out
              dsimp only at y0 y1 y2
              obtain ⟨gr2, ro2, cc2, hrA, hrC, hrc, hcap, htl⟩ := snt_tail HS4.out HRR.out HRL2.out
              have hcell := (HS4.out.cell HRR.out).1; have zcell := (HS4.out.cell HRR.out).2
              unfold Sr.val at hcell
              rw [HLL.out, hrA, hrC] at hcell
              rw [← HLN.out] at hcap
              have hone : 1 ≤ ln := by have := HLN.out; omega
              have HTL := Lib.hid htl
              have HKV := Lib.hid (HO4.out.known tz _ HPK.out)
              clear htl hrA hrC hrc
              have hrn : rest.length = ln - 1 := by have := HLN.out; omega
              have HRN := Lib.hid hrn
              clear hrn
              by_cases hcc : cc2 = 1
              · subst hcc
                go_wp2_with (refine HKV.out.mono ?_; rintro x9 w' ⟨rfl, rfl⟩)
                all_goals first | (exfalso; omega) | skip
                refine ⟨⟨j + 1, ss3.set kp ⟨some ⟨gr2, ro2, none⟩, 1 - 1, rest⟩, by omega, by go_num, ?_, fun q hq hs => HAP.out q hq ((HTL.out (ro2) (.inr ⟨rfl, trivial⟩)).2 q hs), ?_, ?_, ?_⟩, by simp [Go.RowKit.intOf]; omega⟩
                · exact HH4.out.kept (fun a e => Below.heap_setCell _ _ _ _ (fun q => HAP.out a.block ⟨a, e, rfl⟩ (.inl q)))
                · have hput := (HTL.out (ro2) (.inr ⟨rfl, trivial⟩)).1
                  rw [HRN.out, show ln - 1 = 0 from by omega] at hput
                  exact hput
                · intro i r hi
                  rw [List.getElem?_set] at hi
                  split at hi
                  · rename_i e
                    split at hi
                    · cases hi
                      subst e
                      rw [← HKP.out]; exact HREST.out.symm
                    · cases hi
                  · rename_i e
                    have := HR3.out i r hi
                    rw [HDROP.out, remK_cons_ne ⟨tz, mz, sz⟩ _ (show tz ≠ 10 + (i : Int) by have := HKP.out; omega)] at this
                    exact this
                · exact (HO4.out.other (S' := fun q => q = g) (Chg.setCell (Chg.refl (fun q => q = g) _) (.inl rfl) _) (fun q e => by subst e; exact ⟨.inl rfl, HS4.out.lo⟩)).more (fun q hq => .inl ((HTL.out (ro2) (.inr ⟨rfl, trivial⟩)).2 q hq))
              · go_wp2_with (refine HKV.out.mono ?_; rintro x9 w' ⟨rfl, rfl⟩)
                all_goals first | (exfalso; omega) | skip
                refine ⟨⟨j + 1, ss3.set kp ⟨some ⟨gr2, ro2 + 1, none⟩, cc2 - 1, rest⟩, by omega, by go_num, ?_, fun q hq hs => HAP.out q hq ((HTL.out (ro2 + 1) (.inl rfl)).2 q hs), ?_, ?_, ?_⟩, by simp [Go.RowKit.intOf]; omega⟩
                · exact HH4.out.kept (fun a e => Below.heap_setCell _ _ _ _ (fun q => HAP.out a.block ⟨a, e, rfl⟩ (.inl q)))
                · have hput := (HTL.out (ro2 + 1) (.inl rfl)).1
                  rw [HRN.out] at hput
                  exact hput
                · intro i r hi
                  rw [List.getElem?_set] at hi
                  split at hi
                  · rename_i e
                    split at hi
                    · cases hi
                      subst e
                      rw [← HKP.out]; exact HREST.out.symm
                    · cases hi
                  · rename_i e
                    have := HR3.out i r hi
                    rw [HDROP.out, remK_cons_ne ⟨tz, mz, sz⟩ _ (show tz ≠ 10 + (i : Int) by have := HKP.out; omega)] at this
                    exact this
                · exact (HO4.out.other (S' := fun q => q = g) (Chg.setCell (Chg.refl (fun q => q = g) _) (.inl rfl) _) (fun q e => by subst e; exact ⟨.inl rfl, HS4.out.lo⟩)).more (fun q hq => .inl ((HTL.out (ro2 + 1) (.inl rfl)).2 q hq))
            · obtain rfl : j = no := by omega
              have d7 : decide ((j : Int) < (j : Int)) = false := decide_eq_false (by omega)
              have hnil : out.drop j = [] := List.drop_of_length_le (by rw [HNO.out]; exact Nat.le_refl _)
              have HRI9 := HR3.out
              rw [hnil] at HRI9
              have HRI9 := Lib.hid HRI9
              clear hnil
              go_wp2_with fail
              all_goals first | (exfalso; omega) | skip
              go_roundw
              case rel =>
                repeat apply Exists.intro
                refine ⟨?_, rfl⟩
                exact ⟨k + 1, nx, c2, A2, ss3, by omega, by omega, by go_num, rfl, by omega, HC12.out, HC32.out, HI2.out, HS3.out, HRI9.out, HO3.out⟩
              case measure => simp [Go.RowKit.intOf]; omega
end Go.Proofs.Ytjdoemmfemogmaa.Ar
