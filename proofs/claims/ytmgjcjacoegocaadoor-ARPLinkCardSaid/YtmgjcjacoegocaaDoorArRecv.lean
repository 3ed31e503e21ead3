/-
  The contract of (*Table).Receive.
-/
import Derived.Test.YtmgjcjacoegocaaDoorArAbs
import Derived.Test.YtmgjcjacoegocaaDoorHeld
namespace Go.Proofs.YtmgjcjacoegocaaDoor.Ar
set_option maxRecDepth 100000
open Go.RowKit Go.Proofs.YtmgjcjacoegocaaDoor.Wire

/-- what Receive does -/
def recvA (c : Tc) (A : AL) (now : Int) (a : Am) : Tc × AL × List Am × List Hp :=
  if ¬ a.ok then (c, A, [], [])
  else if a.f = c.own then (if a.fm = c.mac then (c, A, [], []) else ((defA c now).1, A, (defA c now).2, []))
  else if a.t ≠ c.own then (c, A, [], [])
  else match look A a.f with
    | some (.inc held _ _ _) => (c, upd A a.f (.res a.fm now now), (if a.op = 1 then [⟨2, c.own, c.mac, a.f, a.fm⟩] else []), held.map fun s => ⟨a.f, a.fm, s⟩)
    | _ => (c, A, (if a.op = 1 then [⟨2, c.own, c.mac, a.f, a.fm⟩] else []), [])
/-- a call at a table: its result, and the table behind it -/
def RecvP (T : Nat) (m : Option Nat) (L : List En) (w : World) (r : Tc × AL × List Am × List Hp) (e : Ending) (w' : World) : Prop :=
  ∃ (B : Option Addr) (k : Nat) (D : Option Addr) (d : Nat) (m' : Option Nat) (es' : Array MapEntry) (clk' : Nat) (L' : List En), e = .returned (.tuple #[.slice B r.2.2.1.length k, .slice D r.2.2.2.length d]) ∧
    MRow w' w.heap.size B k r.2.2.1 ∧ HRow w' w.heap.size D d r.2.2.2 ∧ Tab w' T m' es' clk' r.1 L' ∧ absL L' = r.2.1 ∧ Chg (TOwn T m L) w w' ∧ (∀ q, TOwn T m' L' q → (TOwn T m L q ∨ w.heap.size ≤ q) ∧ ¬ BK B q ∧ ¬ BK D q)

/-- nothing is told, the table is as it was -/
theorem RecvP.same {T : Nat} {m : Option Nat} {es : Array MapEntry} {clk : Nat} {c : Tc} {L : List En} {w w' : World} (h : Tab w T m es clk c L) (hb : Below w.heap.size w w') : RecvP T m L w (c, absL L, [], []) (.returned (.tuple #[.slice none 0 0, .slice none 0 0])) w' :=
  ⟨none, 0, none, 0, m, es, clk, L, rfl, SRow.nil _ _ _ _ _, SRow.nil _ _ _ _ _, h.below hb, rfl, Chg.of_below hb, fun q hq => ⟨.inl hq, bk_none q, bk_none q⟩⟩
/-- a reply is told, the table is as it was -/
theorem RecvP.told {T : Nat} {m : Option Nat} {es : Array MapEntry} {clk : Nat} {c : Tc} {L : List En} {w w'' : World} {B : Option Addr} {k : Nat} {out : List Am} (h : Tab w T m es clk c L) (hr : MRow w'' w.heap.size B k out) (hb : Below w.heap.size w w''.drew) : RecvP T m L w (c, absL L, out, []) (.returned (.tuple #[.slice B out.length k, .slice none 0 0])) w''.drew :=
  ⟨B, k, none, 0, m, es, clk, L, rfl, hr.kept (fun _ _ => rfl), SRow.nil _ _ _ _ _, h.below hb, rfl, Chg.of_below hb, fun q hq => ⟨.inl hq, fun r => by have := (hr.bk' r).1; have := h.lt hq; omega, bk_none q⟩⟩
set_option maxHeartbeats 8000000 in
theorem receive_any (T : Nat) (m : Option Nat) (es : Array MapEntry) (clk : Nat) (c : Tc) (L : List En) (now op f fm t tm : Int) (w : World) (h : Tab w T m es clk c L) (h1 : In64 now) (h2 : In64 c.at_) :
    Calls Tryd.prog 20 #[.pointer (some ⟨T, 0, none⟩), .int .i64 now, .agg #[.int .i64 op, .int .i64 f, .int .i64 fm, .int .i64 t, .int .i64 tm]] w fun e w' => RecvP T m L w (recvA c (absL L) now ⟨op, f, fm, t, tm⟩) e w' := by
  have HT0 := Lib.hid h
  have HN := Lib.hid h1; have HAT := Lib.hid h2
  have HX := Lib.hid (alloc_new w (.cells #[.int .i64 op, .int .i64 f, .int .i64 fm, .int .i64 t, .int .i64 tm] 52))
  have HB := Lib.hid (below_alloc (o := .cells #[.int .i64 op, .int .i64 f, .int .i64 fm, .int .i64 t, .int .i64 tm] 52) (Below.refl w.heap.size w))
  obtain ⟨x, hx⟩ : ∃ x, w.heap.size = x := ⟨_, rfl⟩
  rw [hx] at HX
  have hTx : T < x := by rw [← hx]; exact blk_lt h.tab
  have HXE := Lib.hid hx
  clear h h1 h2 hx
  go_enter Tryd.func20, Tryd.ntmps20
  go_upto_region 1 with fail
  rw [HXE.out]
  generalize w.alloc (.cells #[.int .i64 op, .int .i64 f, .int .i64 fm, .int .i64 t, .int .i64 tm] 52) = w1 at *
  obtain ⟨⟨a0, a1, a2, a3, a4⟩, -⟩ := cells5 HX.out
  go_wp2_with fail
  refine (valid_any op f fm t tm w1).mono ?_
  rintro e w2 ⟨rfl, hb⟩
  have HX2 := Lib.hid (bblock hb HX.out); have HB2 := Lib.hid (below_call HB.out hb)
  have HT2 := Lib.hid (HT0.out.below HB2.out)
  clear a0 a1 a2 a3 a4 hb HX HB
  by_cases hok : (⟨op, f, fm, t, tm⟩ : Am).ok
  case neg =>
    have e1 : Am.okB ⟨op, f, fm, t, tm⟩ = false := by
      cases q : Am.okB ⟨op, f, fm, t, tm⟩ with
      | false => rfl
      | true => exact absurd ((Am.okB_iff _).1 q) hok
    have HR : Hid (recvA c (absL L) now ⟨op, f, fm, t, tm⟩ = (c, absL L, [], [])) := Lib.hid (by unfold recvA; rw [if_pos hok])
    rw [e1]
    go_wp2_with fail
    go_ret2
    rw [HR.out]
    exact RecvP.same HT0.out HB2.out
  case pos =>
    have e1 : Am.okB ⟨op, f, fm, t, tm⟩ = true := (Am.okB_iff _).2 hok
    rw [e1]
    have HOK := Lib.hid hok
    clear e1 hok
    obtain ⟨⟨a0, a1, a2, a3, a4⟩, -⟩ := cells5 HX2.out
    obtain ⟨t0, t1, t2, t3, t4⟩ := cellsT HT2.out
    go_upto_region 3 with fail
    go_region
    by_cases hf : f = c.own
    case pos =>
      subst hf
      by_cases hfm : fm = c.mac
      case pos =>
        subst hfm
        have HR : Hid (recvA c (absL L) now ⟨op, c.own, c.mac, t, tm⟩ = (c, absL L, [], [])) := Lib.hid (by unfold recvA; rw [if_neg (fun q => q HOK.out)]; simp)
        have e2 : (c.own == c.own) = true := by simp
        have e3 : (c.mac == c.mac) = true := by simp
        go_upto_region 4 with fail
        go_region
        go_wp2_with fail
        go_ret2
        rw [HR.out]
        exact RecvP.same HT0.out HB2.out.drew.drew
      case neg =>
        have HR : Hid (recvA c (absL L) now ⟨op, c.own, fm, t, tm⟩ = ((defA c now).1, absL L, (defA c now).2, [])) := Lib.hid (by unfold recvA; rw [if_neg (fun q => q HOK.out), if_pos rfl, if_neg hfm])
        have e2 : (c.own == c.own) = true := by simp
        have e3 : (fm == c.mac) = false := beq_eq_false_iff_ne.2 hfm
        go_upto_region 4 with fail
        go_region
        have HT3 := Lib.hid (HT2.out.drew.drew); have HB3 := Lib.hid (HB2.out.drew.drew)
        obtain ⟨w3, hw3⟩ : ∃ w3, w2.drew.drew = w3 := ⟨_, rfl⟩
        rw [hw3] at HT3 HB3 ⊢
        clear a0 a1 a2 a3 a4 t0 t1 t2 t3 t4 HX2 HT2 HB2 hw3 e2 e3 hfm
        go_wp2_with fail
        refine (defend_any T m es clk c L now w3 HT3.out HN.out HAT.out).mono ?_
        rintro e w4 ⟨⟨B, k, rfl, hrow⟩, hT4, hC4⟩
        have HRW := Lib.hid hrow; have HT4 := Lib.hid hT4; have HC4 := Lib.hid hC4
        clear hrow hT4 hC4
        go_wp2_with fail
        go_ret2
        rw [HR.out]
        have hb3 := HB3.out
        have hz := hb3.size
        have hTl : ∀ q, TOwn T m L q → q < w.heap.size := fun q hq => HT0.out.lt hq
        refine ⟨B, k, none, 0, m, es, clk, L, rfl, HRW.out.mono hz, SRow.nil _ _ _ _ _, HT4.out, rfl, (Chg.of_below hb3).trans HC4.out (fun q e => .inl (.inl e)), fun q hq => ⟨.inl hq, fun hb => ?_, bk_none q⟩⟩
        have := (HRW.out.bk' hb).1
        have := hTl q hq
        omega
    case neg =>
      have e2 : (f == c.own) = false := beq_eq_false_iff_ne.2 hf
      by_cases ht : t = c.own
      case neg =>
        have HR : Hid (recvA c (absL L) now ⟨op, f, fm, t, tm⟩ = (c, absL L, [], [])) := Lib.hid (by unfold recvA; rw [if_neg (fun q => q HOK.out), if_neg hf, if_pos ht])
        have e3 : (t != c.own) = true := by simpa using ht
        have e3' : (t == c.own) = false := beq_eq_false_iff_ne.2 ht
        go_upto_region 7 with fail
        go_region
        go_wp2_with fail
        go_ret2
        rw [HR.out]
        exact RecvP.same HT0.out HB2.out.drew.drew
      case pos =>
        subst ht
        have e3 : (c.own == c.own) = true := by simp
        go_upto_region 7 with fail
        go_region
        have HT3 := Lib.hid (HT2.out.drew.drew); have HB3 := Lib.hid (HB2.out.drew.drew); have HX3 : Hid (w2.drew.drew.heap[x]? = some (.cells #[.int .i64 op, .int .i64 f, .int .i64 fm, .int .i64 c.own, .int .i64 tm] 52)) := Lib.hid HX2.out
        obtain ⟨w3, hw3⟩ : ∃ w3, w2.drew.drew = w3 := ⟨_, rfl⟩
        rw [hw3] at HT3 HB3 HX3 ⊢
        clear a0 a1 a2 a3 a4 t0 t1 t2 t3 t4 HX2 HT2 HB2 hw3 e2 e3
        obtain ⟨out, hout⟩ : ∃ out : List Am, (if op = 1 then [(⟨2, c.own, c.mac, f, fm⟩ : Am)] else []) = out := ⟨_, rfl⟩
        have HOUT := Lib.hid hout
        obtain ⟨⟨a0, a1, a2, a3, a4⟩, -⟩ := cells5 HX3.out
        obtain ⟨t0, t1, t2, t3, t4⟩ := cellsT HT3.out
        clear hout
        go_upto_if 43 with fail
        go_cut [8] (fun s wy => ∃ B k, s = .slice B out.length k ∧ MRow wy w.heap.size B k out ∧ Below w3.heap.size w3 wy)
        case first =>
          by_cases hop : op = 1
          · subst hop
            have e4 : ((1 : Int) == 1) = true := by simp
            have ho : out = [⟨2, c.own, c.mac, f, fm⟩] := by rw [← HOUT.out]; simp
            subst ho
            go_upto_region 11 with fail
            obtain ⟨i0, hi, hz0, hz1, hz2⟩ := info_parts infoAm
            have ltT := blk_lt HT3.out.tab; have ltX := blk_lt HX3.out
            go_region_law (refine step_append_lies _ (by rfl) _ _ _ (by rfl) w.heap.size 52 i0 (.agg #[.int .i64 0, .int .i64 0, .int .i64 0, .int .i64 0, .int .i64 0]) 5 40 Tryd.underlying56 hi hz0 hz1 hz2 rfl (by decide) (.slice none 0 0) 0 [] (by rfl) (⟨rfl, .inl ⟨rfl, rfl⟩⟩) ⟨w3.heap.size, 0, none⟩ 1 1 [.int .i64 2, .int .i64 c.own, .int .i64 c.mac, .int .i64 f, .int .i64 fm] (by rfl) rfl (World.news_of_block (heap_alloc_new w3 _)) (by simp [Value.oneCell']) (by omega) (by unfold maxLen; omega) (by omega) (by have := HB3.out.size; simp; omega) (w3.heap.size + 1) (by simp) ?_; intro g cap w5 hown hgrow hat hlt)
            all_goals
              go_wp2_with fail
              go_meet
              exact ⟨_, cap, rfl, SRow.app (l := []) (x := (⟨2, c.own, c.mac, f, fm⟩ : Am)) hown, (below_alloc (Below.refl w3.heap.size w3)).drew.grown hgrow (by simp [World.drew]) (fun k e => by cases e)⟩
          · have e4 : (op == 1) = false := beq_eq_false_iff_ne.2 hop
            have ho : out = [] := by rw [← HOUT.out]; simp [hop]
            subst ho
            go_wp2_with fail
            go_meet
            exact ⟨none, 0, rfl, SRow.nil _ _ _ _ _, Below.refl _ _⟩
        case rest =>
          clear a0 a1 a2 a3 a4 t0 t1 t2 t3 t4
          obtain ⟨B, k, rfl, hrow, hb4⟩ := hcut
          obtain ⟨w4, rfl⟩ : ∃ wo : World, wo = wc := ⟨_, rfl⟩
          have HRW := Lib.hid hrow
          have HT4 := Lib.hid (HT3.out.below hb4); have HX4 := Lib.hid (bblock hb4 HX3.out); have HB4 := Lib.hid (below_call HB3.out hb4)
          clear hrow hb4 HT3 HX3 HB3
          obtain ⟨⟨a0, a1, a2, a3, a4⟩, -⟩ := cells5 HX4.out
          obtain ⟨t0, t1, t2, t3, t4⟩ := cellsT HT4.out
          have y1 := ta_ii; have y2 := ta_ir; have y3 := ta_in
          by_cases hk : f ∈ L.map (·.k)
          case neg =>
            have hl := HT4.out.drew.look_none f hk
            have HR : Hid (recvA c (absL L) now ⟨op, f, fm, c.own, tm⟩ = (c, absL L, out, [])) := Lib.hid (by unfold recvA; rw [if_neg (fun q => q HOK.out), if_neg hf, if_neg (by simp), look_no hk, HOUT.out])
            go_upto_region 12 with fail
            go_region
            go_wp2_with fail
            go_ret2
            rw [HR.out]
            exact RecvP.told HT0.out HRW.out HB4.out.drew
          case pos =>
            obtain ⟨x9, hx9, rfl⟩ := List.mem_map.1 hk
            obtain ⟨j, hj⟩ := List.getElem?_of_mem hx9
            have hl := HT4.out.drew.look_some hj
            have hlk := look_at HT4.out.nod hj
            have hok9 := HT4.out.ok x9 hx9
            have hmem := hx9
            clear hx9 hk
            obtain ⟨k9, v, eb, Hb, hc⟩ := x9
            unfold En.val at hl
            dsimp only at hf hl hlk hok9 a1 HX4 HOUT HOK ⊢
            cases v with
            | res mac9 since used =>
              have HR : Hid (recvA c (absL L) now ⟨op, k9, fm, c.own, tm⟩ = (c, absL L, out, [])) := Lib.hid (by unfold recvA; rw [if_neg (fun q => q HOK.out), if_neg hf, if_neg (by simp), hlk, HOUT.out])
              dsimp only [Ev.ty] at hl
              clear hlk hok9
              go_upto_region 12 with fail
              go_region
              go_wp2_with fail
              go_ret2
              rw [HR.out]
              exact RecvP.told HT0.out HRW.out HB4.out.drew
            | inc held sent first last =>
              have HR : Hid (recvA c (absL L) now ⟨op, k9, fm, c.own, tm⟩ = (c, upd (absL L) k9 (.res fm now now), out, held.map fun s => ⟨k9, fm, s⟩)) := Lib.hid (by unfold recvA; rw [if_neg (fun q => q HOK.out), if_neg hf, if_neg (by simp), hlk, HOUT.out])
              dsimp only [Ev.ty] at hl
              have HOK9 := Lib.hid hok9
              clear hlk hok9
              go_upto_region 12 with fail
              go_region
              go_upto_region 15 with fail
              have HT5 := Lib.hid HT4.out.drew; have HB5 := Lib.hid HB4.out.drew; have HX5 : Hid (w4.drew.heap[x]? = _) := Lib.hid HX4.out
              have HRW5 : Hid (MRow w4.drew w.heap.size B k out) := Lib.hid (HRW.out.kept (fun _ _ => rfl))
              have HOK5 : Hid (En.ok w4.drew ⟨k9, .inc held sent first last, eb, Hb, hc⟩) := Lib.hid (En.ok_kept HOK9.out (fun _ _ => rfl))
              clear hl a0 a1 a2 a3 a4 t0 t1 t2 t3 t4 HT4 HB4 HX4 HRW HOK9 y1 y2 y3
              generalize w4.drew = w5 at *
              obtain ⟨r, rfl⟩ : ∃ r, m = some r := by
                rcases HT5.out.map with ⟨-, q⟩ | ⟨r, q, -⟩
                · subst q; cases hmem
                · exact ⟨r, q⟩
              obtain ⟨hmap, hrT⟩ : w5.heap[r]? = some (.map es clk) ∧ r ≠ T := by
                rcases HT5.out.map with ⟨q, -⟩ | ⟨r', q, q2, q3⟩
                · cases q
                · cases q; exact ⟨q2, q3⟩
              have HT6 : Hid (Tab ((w5.alloc (.cells #[.int .i64 fm, .int .i64 now, .int .i64 now] 128)).drew) T (some r) es clk c L) := Lib.hid ((HT5.out.below ((Below.refl _ _).alloc (Nat.le_refl _) _)).drew)
              have hup := run_upd_old (W := (w5.alloc (.cells #[.int .i64 fm, .int .i64 now, .int .i64 now] 128)).drew) k9 (.iface 126 (.pointer (some ⟨w5.heap.size, 0, none⟩))) (block_alloc hmap _) (HT5.out.ents (by simp)) HT5.out.nod (keys_at hj).1 (keys_at hj).2
              unfold tyM at hup
              obtain ⟨w7, hw7⟩ : ∃ W : World, W = { (w5.alloc (.cells #[.int .i64 fm, .int .i64 now, .int .i64 now] 128)).drew with heap := (w5.alloc (.cells #[.int .i64 fm, .int .i64 now, .int .i64 now] 128)).drew.heap.setIfInBounds r (.map (es.modify j fun x => { x with key := .int .i64 k9, val := (.iface 126 (.pointer (some ⟨w5.heap.size, 0, none⟩))) }) clk) } := ⟨_, rfl⟩
              rw [← hw7] at hup
              have HW7 := Lib.hid hw7; clear hw7
              obtain ⟨⟨a0, a1, a2, a3, a4⟩, -⟩ := cells5 HX5.out
              obtain ⟨t0, t1, t2, t3, t4⟩ := cellsT HT5.out
              have ltT := blk_lt HT5.out.tab; have ltX := blk_lt HX5.out
              go_region
              clear a0 a1 a2 a3 a4 t0 t1 t2 t3 t4 hup
              have hlt5 : w.heap.size ≤ w5.heap.size := HB5.out.size
              have hrl : r < w.heap.size := HT0.out.lt (.inr (.inl rfl))
              have hTl : ∀ q, TOwn T (some r) L q → q < w.heap.size := fun q hq => HT0.out.lt hq
              have HTL := Lib.hid hTl; have HNOD := Lib.hid HT0.out.nod
              obtain ⟨hT7, hsz7, hkp7, hch7⟩ : Tab w7 T (some r) (es.modify j fun x => { x with key := .int .i64 k9, val := (.iface 126 (.pointer (some ⟨w5.heap.size, 0, none⟩))) }) clk c (L.set j ⟨k9, .res fm now now, w5.heap.size, none, 0⟩) ∧ w7.heap.size = w5.heap.size + 1 ∧ (∀ q, q < w5.heap.size → q ≠ r → w7.heap[q]? = w5.heap[q]?) ∧ Chg (TOwn T (some r) L) w w7 := by
                rw [HW7.out]
                refine ⟨HT6.out.upd hj (e' := ⟨k9, .res fm now now, w5.heap.size, none, 0⟩) rfl ⟨alloc_new w5 _, rfl, HN.out, HN.out⟩ (fun q hq hq2 => ?_), by show ((w5.alloc _).heap.setIfInBounds r _).size = _; simp, fun q hq hne => ?_, ((Chg.of_below HB5.out).alloc _).drew.setObj (.inl (.inr (.inl rfl))) _⟩
                · rcases hq with rfl | ⟨a, e, -⟩
                  · have := hTl _ hq2; dsimp only at this; omega
                  · cases e
                · show ((w5.alloc _).heap.setIfInBounds r _)[q]? = _
                  rw [Array.getElem?_setIfInBounds_ne (fun e => hne e.symm)]
                  exact Below.heap_alloc w5 _ q hq
              have HT7 := Lib.hid hT7; have HK7 := Lib.hid hkp7; have HC7 := Lib.hid hch7
              have hown9 : ∀ q, (q = eb ∨ ∃ a, Hb = some a ∧ a.block = q) → q < w5.heap.size ∧ q ≠ r := fun q hq => ⟨by have := hTl q (.inr (.inr ⟨_, hmem, hq⟩)); omega, fun e => (HT0.out.eo _ hmem q hq).2 (by rw [e])⟩
              have hok7 : En.okV w7 eb Hb hc (.inc held sent first last) := okV_kept HOK5.out (fun q hq => hkp7 q (hown9 q hq).1 (hown9 q hq).2)
              have HX7 : Hid (w7.heap[x]? = _) := Lib.hid ((hkp7 x (blk_lt HX5.out) (by have := HXE.out; omega)).trans HX5.out)
              have HRW7 : Hid (MRow w7 w.heap.size B k out) := Lib.hid (HRW5.out.kept (fun a e => hkp7 _ (HRW5.out.bk e).2 (by have := (HRW5.out.bk e).1; omega)))
              have hb5 : ∀ q, BK B q → w.heap.size ≤ q ∧ q < w5.heap.size := fun q hq => HRW5.out.bk' hq
              have HB5' := Lib.hid hb5
              have HOK7 := Lib.hid hok7
              clear hT7 hkp7 hch7 hok7 hTl hown9 hb5 HW7 HT6 HT5 HX5 HRW5 HOK5 HB5 hmap HT0
              obtain ⟨⟨a0, a1, a2, a3, a4⟩, -⟩ := cells5 HX7.out
              go_wp2_with fail
              refine (release_any eb Hb hc held sent first last k9 fm w7 HOK7.out.1 HOK7.out.2.1 (by have := HOK7.out.2.2.2.1; omega)).mono ?_
              rintro e w8 ⟨⟨D, d, rfl, hrow⟩, hb8⟩
              have HHR := Lib.hid hrow; have HB8 := Lib.hid hb8
              clear hrow hb8 a0 a1 a2 a3 a4
              go_wp2_with fail
              go_ret2
              rw [HR.out]
              refine ⟨B, k, D, d, some r, _, clk, _, by simp, HRW7.out.below HB8.out, HHR.out.mono (by omega), HT7.out.below HB8.out, abs_set HNOD.out hj rfl, HC7.out.below HB8.out, fun q hq => ?_⟩
              have hnew : ∀ q, TOwn T (some r) L q → (TOwn T (some r) L q ∨ w.heap.size ≤ q) ∧ ¬ BK B q ∧ ¬ BK D q := fun q hq => ⟨.inl hq, fun hb => by have := (HB5'.out q hb).1; have := HTL.out q hq; omega, fun hd => by have := (HHR.out.bk' hd).1; have := HTL.out q hq; omega⟩
              rcases hq with q1 | q1 | ⟨y, hy, q1⟩
              · exact hnew q (.inl q1)
              · exact hnew q (.inr (.inl q1))
              · rcases mem_set hy with rfl | ⟨i9, hi9, hy9⟩
                · rcases q1 with rfl | ⟨a, e, -⟩
                  · exact ⟨.inr hlt5, fun hb => by have := (HB5'.out _ hb).2; dsimp only at this; omega, fun hd => by have := (HHR.out.bk' hd).1; dsimp only at this; omega⟩
                  · cases e
                · exact hnew q (.inr (.inr ⟨y, List.mem_of_getElem? hy9, q1⟩))
end Go.Proofs.YtmgjcjacoegocaaDoor.Ar
