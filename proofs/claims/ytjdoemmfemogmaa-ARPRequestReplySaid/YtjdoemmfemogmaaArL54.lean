/-
  The walk of the law ARPRequestReply.
-/
import Derived.Test.YtjdoemmfemogmaaArSan
import Derived.Test.YtjdoemmfemogmaaArArgS
import Derived.Test.YtjdoemmfemogmaaArL54p
import Derived.Test.YtjdoemmfemogmaaStore
import Derived.Deep.DeepCutAuto
import Derived.Deep.AppendLies
namespace Go.Proofs.Ytjdoemmfemogmaa.Ar
set_option maxRecDepth 100000
open Go.RowKit Go.Proofs.Ytjdoemmfemogmaa.Wire

/-- an empty slice is appended -/
theorem app_none {P : Program} (W : World) (t ty e : TypeId) (i : TypeInfo) (ht : P.underlying t = some (.slice e)) (hi : P.info? e = some i) (A B : Option Addr) (n c m d : Nat) (hn : n ≤ c) (hm : m = 0) :
    (Builtin.append_ #[t, t] ty #[.slice A n c, .slice B m d]).run P W = .ok (.slice A n c) W := by
  subst hm
  cases A <;> cases B <;> simp [Builtin.append_, run_underlying ht, sizeOf, typeInfo, hi, hn, Builtin.firstCells, Builtin.lenOf, loadCells, storeCells, loadCellsFrom]
theorem wpList_none {P : Program} {w : World} {ops : Array Oper} {rest : List Oper} {o : Oper} {a : Act} {Q : Exit → Act → World → Prop} (hgd : o.guard = none) (s x : Operand) (t : TypeId)
    (ho : o.op = .call { callee := .builtin .append, args := #[s, x], argTypes := #[t, t] }) (e : TypeId) (i : TypeInfo) (ht : P.underlying t = some (.slice e)) (hi : P.info? e = some i) (A B : Option Addr) (n c m d : Nat)
    (hs : a.eval s = .slice A n c) (hx : a.eval x = .slice B m d) (hn : n ≤ c) (hm : m = 0) (h : wpList P ops Q rest (a.put o.dst (.slice A n c)) w) : wpList P ops Q (o :: rest) a w :=
  wpList_plain hgd fun K hK => by
    have hr := app_none (P := P) w t o.type e i ht hi A B n c m d hn hm
    unfold Oper.wp execOp
    simp only [ho, resolve, invoke, builtin, Sem.run_bind, Sem.run_pure, Result.andThen_ok, List.map_toArray, List.map_cons, List.map_nil, hs, hx, hr]
    exact hK _ _ h
theorem mrow0 {W : World} {lo g c : Nat} {l : List Am} {p : Am} (h : MRow W lo (some ⟨g, 0, none⟩) c (p :: l)) :
    W.cell? ⟨g, 0, none⟩ = some (.int .i64 p.op) ∧ W.cell? ⟨g, 1, none⟩ = some (.int .i64 p.f) ∧ W.cell? ⟨g, 2, none⟩ = some (.int .i64 p.fm) ∧ W.cell? ⟨g, 3, none⟩ = some (.int .i64 p.t) ∧ W.cell? ⟨g, 4, none⟩ = some (.int .i64 p.tm) := by
  obtain ⟨x0, x1, x2, x3, x4⟩ := MRow.cells h (i := 0) rfl
  exact ⟨by simpa using x0, by simpa using x1, by simpa using x2, by simpa using x3, by simpa using x4⟩
abbrev T3 (T0 T1 T2 : Nat) (one two third m mo : Int) (A0 : AL) : List Tb := [⟨T0, ⟨one, 3, false, 0⟩, A0⟩, ⟨T1, ⟨two, m, false, 0⟩, []⟩, ⟨T2, ⟨third, mo, false, 0⟩, []⟩]
set_option maxHeartbeats 8000000 in
theorem reply_law (a b mac other : Int) (A : Option Addr) (nt ct : Nat) (tl : List ByteArray) (lost : Int) (w : World) (hA : ArgS w A nt tl) (ha : In64 a) (hb : In64 b) (hm : In64 mac) (ho : In64 other) (hl : In64 lost) :
    Calls Try.prog 6 #[.int .i64 a, .int .i64 b, .int .i64 mac, .int .i64 other, .slice A nt ct, .int .i64 lost] w fun x w' => x = .returned (.bool true) ∧ Below w.heap.size w w' := by
  have HA := Lib.hid hA
  have hnt := hA.size
  have P1 := Lib.hid (fun W => pick_any a 50 W ha (by omega) (by omega)); have b1 := pick_lt a 50 (by omega)
  have P2 := Lib.hid (fun W => pick_any b 50 W hb (by omega) (by omega)); have b2 := pick_lt b 50 (by omega)
  have P3 := Lib.hid (fun W => pick_any mac 100 W hm (by omega) (by omega)); have b3 := pick_lt mac 100 (by omega)
  have P4 := Lib.hid (fun W => pick_any other 100 W ho (by omega) (by omega)); have b4 := pick_lt other 100 (by omega)
  have P5 := Lib.hid (fun W => pick_any lost 3 W hl (by omega) (by omega)); have b5 := pick_lt lost 3 (by omega)
  generalize pick a 50 = z1 at *
  generalize pick b 50 = z2 at *
  generalize pick mac 100 = z3 at *
  generalize pick other 100 = z4 at *
  obtain ⟨nj, hnj⟩ : ∃ nj : Nat, pick lost 3 = (nj : Int) := ⟨(pick lost 3).toNat, by omega⟩
  rw [hnj] at P5 b5
  have hw1 : IntKind.i64.wrap (1 + z1) = 1 + z1 := IntWalk.i64_in _ (by omega)
  have hw2 : IntKind.i64.wrap (60 + z2) = 60 + z2 := IntWalk.i64_in _ (by omega)
  have hw3 : IntKind.i64.wrap (200 + z2) = 200 + z2 := IntWalk.i64_in _ (by omega)
  have hw4 : IntKind.i64.wrap (100 + z3) = 100 + z3 := IntWalk.i64_in _ (by omega)
  have hw5 : IntKind.i64.wrap (300 + z4) = 300 + z4 := IntWalk.i64_in _ (by omega)
  obtain ⟨one, e1⟩ : ∃ x, 1 + z1 = x := ⟨_, rfl⟩
  obtain ⟨two, e2⟩ : ∃ x, 60 + z2 = x := ⟨_, rfl⟩
  obtain ⟨third, e3⟩ : ∃ x, 200 + z2 = x := ⟨_, rfl⟩
  obtain ⟨m, e4⟩ : ∃ x, 100 + z3 = x := ⟨_, rfl⟩
  obtain ⟨mo, e5⟩ : ∃ x, 300 + z4 = x := ⟨_, rfl⟩
  replace hw1 := hw1.trans e1; replace hw2 := hw2.trans e2; replace hw3 := hw3.trans e3; replace hw4 := hw4.trans e4; replace hw5 := hw5.trans e5
  have h1 : 1 ≤ one ∧ one ≤ 50 := by omega
  have h2 : 60 ≤ two ∧ two ≤ 109 := by omega
  have h3 : 200 ≤ third ∧ third ≤ 249 := by omega
  have h4 : 100 ≤ m ∧ m ≤ 199 := by omega
  have h5 : 300 ≤ mo ∧ mo ≤ 399 := by omega
  clear e1 e2 e3 e4 e5 hnj b1 b2 b3 b4 hA ha hb hm ho hl
  have u1 : uniB one = true := decide_eq_true (by omega); have u2 : uniB two = true := decide_eq_true (by omega); have u3 : uniB third = true := decide_eq_true (by omega)
  have v2 : umacB m = true := decide_eq_true (by omega); have v3 : umacB mo = true := decide_eq_true (by omega)
  have U := Lib.hid (⟨u1, u2, u3, v2, v3⟩ : uniB one = true ∧ uniB two = true ∧ uniB third = true ∧ umacB m = true ∧ umacB mo = true)
  clear u1 u2 u3 v2 v3
  go_enter Try.func6, Try.ntmps6
  go_wp2_with fail
  refine (sanity_any _).mono ?_
  rintro x w1 ⟨rfl, hb1⟩
  have HB1 := Lib.hid hb1
  clear hb1
  go_wp2_with (first | (go_at_call 18; (with_reducible refine (P1.out _).mono ?_); rintro e9 w' ⟨rfl, rfl⟩) | (go_at_call 18; (with_reducible refine (P2.out _).mono ?_); rintro e9 w' ⟨rfl, rfl⟩) | (go_at_call 18; (with_reducible refine (P3.out _).mono ?_); rintro e9 w' ⟨rfl, rfl⟩))
  refine (new_any one 3 _).mono ?_
  rintro x w2 (⟨-, -, rfl, hw2e⟩ | ⟨hb, -, -⟩)
  case inr => rcases hb with hb | hb; (rw [U.out.1] at hb; cases hb); (cases hb)
  have HM1 : Hid (Many w [⟨w1.heap.size, ⟨one, 3, false, 0⟩, []⟩] (fun _ => False) w2) := Lib.hid (by rw [hw2e]; exact ((Many.nil HB1.out (fun _ => False)).push one 3).more (fun q hq => hq.elim))
  obtain ⟨T0, hT⟩ : ∃ T, w1.heap.size = T := ⟨_, rfl⟩
  rw [hT] at HM1 ⊢
  clear hw2e hT HB1
  go_wp2_with fail
  refine (new_any two m _).mono ?_
  rintro x w3 (⟨-, -, rfl, hw2e⟩ | ⟨hb, -, -⟩)
  case inr => rcases hb with hb | hb; (rw [U.out.2.1] at hb; cases hb); (rw [U.out.2.2.2.1] at hb; cases hb)
  have HM2 : Hid (Many w [⟨T0, ⟨one, 3, false, 0⟩, []⟩, ⟨w2.heap.size, ⟨two, m, false, 0⟩, []⟩] (fun _ => False) w3) := Lib.hid (by rw [hw2e]; exact (HM1.out.push two m).more (fun q hq => hq.elim))
  obtain ⟨T1, hT⟩ : ∃ T, w2.heap.size = T := ⟨_, rfl⟩
  rw [hT] at HM2 ⊢
  clear hw2e hT HM1
  go_wp2_with (go_at_call 18; (with_reducible refine (P4.out _).mono ?_); rintro e9 w' ⟨rfl, rfl⟩)
  refine (new_any third mo _).mono ?_
  rintro x w4 (⟨-, -, rfl, hw2e⟩ | ⟨hb, -, -⟩)
  case inr => rcases hb with hb | hb; (rw [U.out.2.2.1] at hb; cases hb); (rw [U.out.2.2.2.2] at hb; cases hb)
  have HM3 : Hid (Many w (T3 T0 T1 w3.heap.size one two third m mo []) (fun _ => False) w4) := Lib.hid (by rw [hw2e]; exact (HM2.out.push third mo).more (fun q hq => hq.elim))
  obtain ⟨T2, hT⟩ : ∃ T, w3.heap.size = T := ⟨_, rfl⟩
  rw [hT] at HM3 ⊢
  clear hw2e hT HM2
  go_wp2_with fail
  go_loopw [24, 25, 26] (fun sv nv iv wr => ∃ (k : Nat), k ≤ nt ∧ k ≤ 4 ∧ iv = .int .i64 (k : Int) ∧ nv = .int .i64 (k : Int) ∧
      ((k = 0 ∧ sv = .slice none 0 0 ∧ Many w (T3 T0 T1 T2 one two third m mo []) (fun _ => False) wr) ∨
       (1 ≤ k ∧ ∃ g sc, sv = .slice (some ⟨g, 0, none⟩) 1 sc ∧ Many w (T3 T0 T1 T2 one two third m mo [(two, .inc (heldK tl k) 1 0 0)]) (fun q => q = g) wr ∧ MRow wr w.heap.size (some ⟨g, 0, none⟩) sc [⟨1, one, 3, two, 0⟩]))) (fun _ _ iv _ => 4 - (Go.RowKit.intOf iv).toNat)
  case atStart => exact ⟨0, by omega, by omega, rfl, rfl, .inl ⟨rfl, rfl, HM3.out⟩⟩
  case round =>
    clear HM3
    obtain ⟨k, hk, hk4, rfl, rfl, hor⟩ := hrel
    obtain ⟨wx, rfl⟩ : ∃ wo : World, wo = wr := ⟨_, rfl⟩
    by_cases hend : k = nt ∨ k = 4
    · have hpair : (decide ((k : Int) < (nt : Int)) = false ∧ ¬ k < nt) ∨ (k < nt ∧ decide ((k : Int) < (nt : Int)) = true ∧ decide ((k : Int) < 4) = false ∧ ¬ k < 4) := by
        by_cases q : k < nt
        · exact .inr ⟨q, decide_eq_true (by omega), decide_eq_false (by omega), by omega⟩
        · exact .inl ⟨decide_eq_false (by omega), q⟩
      rcases hor with ⟨h0, rfl, hm⟩ | ⟨h0, g, sc, rfl, hm, hrow⟩
      · have d1 : decide ((k : Int) < (nt : Int)) = false := decide_eq_false (by omega)
        have q1 : ¬ k < nt := by omega
        have HM := Lib.hid hm
        subst h0
        clear hpair hend hm
        go_wp2_with fail
        all_goals first | (exfalso; omega) | skip
        go_ret
        exact ⟨rfl, HM.out.bel⟩
      · have HM := Lib.hid hm; have HR := Lib.hid hrow
        clear hm hrow hend
        have ek : ((k : Int) == 0) = false := beq_eq_false_iff_ne.2 (by omega)
        have ek2 : ¬ k = 0 := by omega
        have hgl : g < wx.heap.size := (HR.out.bk rfl).2
        obtain ⟨hl, ehl⟩ : ∃ hl, heldK tl k = hl := ⟨_, rfl⟩
        have hll : hl.length = k := by rw [← ehl]; unfold heldK; rw [List.length_map, List.length_take, HA.out.1]; omega
        have HEHL := Lib.hid ehl; have HLL := Lib.hid hll
        rw [ehl] at HM
        clear ehl hll
        rcases hpair with ⟨d1, q1⟩ | ⟨q1, d1, d2, q2⟩
        all_goals
          go_wp2_with (go_at_call 18; (with_reducible refine (P5.out _).mono ?_); rintro e9 w' ⟨rfl, rfl⟩)
          all_goals first | (exfalso; omega) | skip
          go_loopw [31] (fun jv wr => ∃ (j : Nat), j ≤ nj ∧ jv = .int .i64 (j : Int) ∧ Many w (T3 T0 T1 T2 one two third m mo [(two, .inc hl (1 + (j : Int)) 0 (10 * (j : Int)))]) (fun q => q = g) wr ∧ MRow wr w.heap.size (some ⟨g, 0, none⟩) sc [⟨1, one, 3, two, 0⟩]) (fun jv _ => nj - (Go.RowKit.intOf jv).toNat)
          case atStart => exact ⟨0, by omega, rfl, HM.out, HR.out⟩
          case round =>
            clear HM HR hgl
            obtain ⟨j, hj, rfl, hm, hrow⟩ := hrel
            have HM := Lib.hid hm; have HR := Lib.hid hrow
            have hgl : g < wr.heap.size := (HR.out.bk rfl).2
            clear hm hrow
            obtain ⟨wy, rfl⟩ : ∃ wo : World, wo = wr := ⟨_, rfl⟩
            by_cases hjn : j < nj
            · have d5 : decide ((j : Int) < (nj : Int)) = true := decide_eq_true (by omega)
              have j0 : (0 : Int) ≤ (j : Int) := by omega
              have w5 : IntKind.i64.wrap ((j : Int) + 1) = (j : Int) + 1 := IntWalk.i64_in _ (by omega)
              have w6 : IntKind.i64.wrap (10 * ((j : Int) + 1)) = 10 * ((j : Int) + 1) := IntWalk.i64_in _ (by omega)
              have HTK := Lib.hid (tick_k one two hl j (by omega))
              obtain ⟨tn, htn⟩ : ∃ tn, 10 * ((j : Int) + 1) = tn := ⟨_, rfl⟩
              rw [htn] at HTK
              replace w6 := w6.trans htn
              have hin : In64 tn := by unfold In64; omega
              have HTI := Lib.hid (HM.out.tick (i := 0) rfl tn _ _ _ HTK.out hin (by simp) (by simp; unfold In64; omega) (by
                intro x hx
                simp at hx; subst hx
                show 1 ≤ hl.length
                rw [HLL.out]; omega))
              clear htn
              go_wp2_with fail
              all_goals first | (exfalso; omega) | skip
              refine HTI.out.mono ?_
              rintro x9 w5 ⟨B5, k5, D5, d5', rfl, hm5, -, hmany, hkp⟩
              have HM5 := Lib.hid (hmany.more (K' := fun q => q = g) (fun q e => .inl (.inl ⟨e, by omega⟩)))
              have HR5 := Lib.hid (SRow.stand HR.out hkp (fun q ⟨a, e, e2⟩ => by cases e; exact e2.symm))
              have HX5 := Lib.hid hm5
              clear hmany hkp hm5
              go_wp2_with (go_at_call 28; refine (sameArps_any _ _ _ _ _ _ _ _ _ HX5.out HR5.out ⟨by simp, by simp⟩).mono ?_; rintro e9 w6 ⟨rfl, hb6⟩)
              exact ⟨⟨j + 1, by omega, by go_num, HM5.out.below hb6, HR5.out.below hb6⟩, by simp [Go.RowKit.intOf]; omega⟩
            · obtain rfl : j = nj := by omega
              have d5 : decide ((j : Int) < (j : Int)) = false := decide_eq_false (by omega)
              have i5 : In64 5 := by unfold In64; omega
              have i0 : In64 0 := by unfold In64; omega
              have i31 : In64 31 := by unfold In64; omega
              obtain ⟨x0, x1, x2, x3, x4⟩ := mrow0 HR.out
              dsimp only at x0 x1 x2 x3 x4
              go_wp2_with fail
              all_goals first | (exfalso; omega) | skip
              refine (HM.out.recv (i := 2) rfl 5 1 one 3 two 0 _ _ _ _ (recv_third one two third mo h1 h2 h3.1) i5 i0).mono ?_
              rintro x9 w5 ⟨B5, k5, D5, d5', rfl, -, -, hmany, hkp⟩
              have HM5 := Lib.hid (hmany.more (K' := fun q => q = g) (fun q e => .inl (.inl ⟨e, by omega⟩)))
              have HR5 := Lib.hid (SRow.stand HR.out hkp (fun q ⟨a, e, e2⟩ => by cases e; exact e2.symm))
              clear hmany hkp HM HR x0 x1 x2 x3 x4
              obtain ⟨x0, x1, x2, x3, x4⟩ := mrow0 HR5.out
              dsimp only at x0 x1 x2 x3 x4
              go_wp2_with fail
              all_goals first | (exfalso; omega) | skip
              refine (HM5.out.recv (i := 1) rfl 5 1 one 3 two 0 _ _ _ _ (recv_two one two m h1 h2) i5 i0).mono ?_
              rintro x9 w6 ⟨B6, k6, D6, d6', rfl, hm6, -, hmany, -⟩
              have HM6 := Lib.hid (hmany.more (K' := fun _ => False) (fun q e => e.elim))
              obtain ⟨gy, rfl, -⟩ := hm6.addr (by simp)
              obtain ⟨y0, y1, y2, y3, y4⟩ := mrow0 hm6
              dsimp only at y0 y1 y2 y3 y4
              clear hmany HM5 HR5 x0 x1 x2 x3 x4 hm6
              have hok : (⟨2, two, m, one, 3⟩ : Am).ok := by unfold Am.ok; dsimp only; omega
              have HDE := Lib.hid (dec_enc _ hok)
              have hsz : (⟨(encM ⟨2, two, m, one, 3⟩).toArray⟩ : ByteArray).size = 13 := by show (encM _).toArray.size = 13; simp [encM_len]
              have HSZ := Lib.hid hsz; have HOK := Lib.hid hok
              clear hsz hok
              go_wp2_with fail
              all_goals first | (exfalso; omega) | skip
              refine (encode_ok 2 two m one 3 _ HOK.out).mono ?_
              rintro x9 w7 ⟨rfl, hb7⟩
              have HM7 := Lib.hid (HM6.out.below hb7)
              clear hb7 HM6 y0 y1 y2 y3 y4
              obtain ⟨ms, hms⟩ : ∃ ms : ByteArray, (⟨(encM ⟨2, two, m, one, 3⟩).toArray⟩ : ByteArray) = ms := ⟨_, rfl⟩
              rw [hms] at HDE HSZ ⊢
              clear hms HOK
              go_wp2_with fail
              refine (decode_13 ms _ HSZ.out).mono ?_
              rintro x9 w8 ⟨rfl, hb8⟩
              rw [HDE.out]
              have HM8 := Lib.hid (HM7.out.below hb8)
              clear hb8 HM7
              dsimp only
              have HM9 := Lib.hid (HM8.out.below ((Below.refl w8.heap.size w8).alloc (Nat.le_refl _) (.cells #[.int .i64 2, .int .i64 two, .int .i64 m, .int .i64 one, .int .i64 3] 23)))
              obtain ⟨lp, elp⟩ : ∃ lp : List Hp, (hl.map fun s => (⟨two, m, s⟩ : Hp)) = lp := ⟨_, rfl⟩
              have HRV := Lib.hid (recv_one one two m hl (1 + (j : Int)) 0 (10 * (j : Int)) h1 h2 h4)
              rw [elp] at HRV
              have hlpl : lp.length = k := by rw [← elp, List.length_map]; exact HLL.out
              have HELP := Lib.hid elp; have HLPL := Lib.hid hlpl
              clear elp hlpl HM8 HDE HSZ
              go_wp2_with fail
              refine (HM9.out.recv (i := 0) rfl 31 2 two m one 3 _ _ _ _ HRV.out i31 i0).mono ?_
              rintro x9 w10 ⟨B10, k10, D10, d10, rfl, -, hh, hmany, -⟩
              have HM10 := Lib.hid (hmany.more (K' := fun _ => False) (fun q e => e.elim))
              have HH := Lib.hid hh
              rw [HLPL.out]
              clear hmany hh HM9
              have HK0 := Lib.hid (HM10.out.known (i := 0) rfl two (.tuple #[.int .i64 m, .bool true]) (by show knownV (look [(two, .res m 31 31)] two) = _; rw [look_single]; rfl))
              have HK1 := Lib.hid (HM10.out.known (i := 1) rfl one (.tuple #[.int .i64 0, .bool false]) rfl)
              go_wp2_with fail
              refine HK0.out.mono ?_
              rintro x9 w' ⟨rfl, rfl⟩
              obtain ⟨k1, hk1⟩ : ∃ k1, k = k1 + 1 := ⟨k - 1, by omega⟩
              have hwk : IntKind.i64.wrap ((k : Int) - 1) = (k1 : Int) := by rw [hk1]; exact (IntWalk.i64_in _ (by omega)).trans (by omega)
              have k10 : (0 : Int) ≤ (k1 : Int) := by omega
              have k11 : (k1 : Int) < (k : Int) := by omega
              have k12 : (k1 : Int) < (nt : Int) := by omega
              obtain ⟨ab, ao, s, hAe, htl, hab, hsz, cs⟩ := HA.out.at_ k1 (by omega)
              subst hAe
              have cs' := bcell HM10.out.bel cs
              obtain ⟨gd, rfl, -⟩ := HH.out.addr (by rw [HLPL.out]; omega)
              have hlk : lp[k1]? = some ⟨two, m, shortS s⟩ := by
                rw [← HELP.out, ← HEHL.out, List.getElem?_map]
                unfold heldK
                rw [List.getElem?_map, List.getElem?_take, if_pos (by omega), htl]; rfl
              obtain ⟨-, z1', z2'⟩ := HRow.cells HH.out hlk
              dsimp only at z1' z2'
              have PS : Hid (∀ W, Calls Try.prog 26 #[.string s] W fun e w' => e = .returned (.string (shortS s)) ∧ w' = W) := Lib.hid (fun W => (short_any s W hsz).mono (by rintro e w' ⟨rfl, rfl⟩; exact ⟨rfl, rfl⟩))
              generalize shortS s = ss at *
              have HK1E := Lib.hid hk1
              clear hk1 cs hlk htl hsz HK0
              go_upto_region 39 with (refine HK1.out.mono ?_; rintro x9 w' ⟨rfl, rfl⟩)
              simp only [List.append_eq, List.cons_append, List.nil_append]
              go_quiet (exact Calls.quiet_of_same (PS.out _))
              go_wp2_with fail
              go_ret
              exact ⟨rfl, below_drewN HM10.out.bel _⟩
    · have d1 : decide ((k : Int) < (nt : Int)) = true := decide_eq_true (by omega)
      have d2 : decide ((k : Int) < 4) = true := decide_eq_true (by omega)
      have q1 : k < nt := by omega
      have q2 : k < 4 := by omega
      have k0 : (0 : Int) ≤ (k : Int) := by omega
      have k1 : (k : Int) < (nt : Int) := by omega
      have hwk : IntKind.i64.wrap ((k : Int) + 1) = (k : Int) + 1 := IntWalk.i64_in _ (by omega)
      have hin : In64 (k : Int) := by unfold In64; omega
      obtain ⟨ab, ao, s, hAe, htl, hab, hsz, cs⟩ := HA.out.at_ k (by omega)
      subst hAe
      have PS := Lib.hid (fun W => short_any s W hsz)
      have hsk := send_k one two h1 h2 tl k s htl q2
      have htk : tabK two tl (k + 1) = [(two, .inc (heldK tl (k + 1)) 1 0 0)] := by unfold tabK; rw [if_neg (by omega)]
      rw [htk] at hsk
      have hss : (shortS s).size ≤ 9223372036854775807 := by have := short_le s; omega
      have HSS := Lib.hid hss; have HCS := Lib.hid cs
      generalize shortS s = ss at *
      clear hss htk htl hsz cs hend
      obtain ⟨i0, hi, hz0, hz1, hz2⟩ := info_parts infoAm
      have HI := Lib.hid hi; have HZ0 := Lib.hid hz0; have HZ1 := Lib.hid hz1; have HZ2 := Lib.hid hz2
      clear hi hz0 hz1 hz2
      rcases hor with ⟨h0, rfl, hm⟩ | ⟨h0, g, sc, rfl, hm, hrow⟩
      · have ht0 : tabK two tl k = [] := by unfold tabK; rw [if_pos h0]
        rw [ht0, if_pos h0] at hsk
        have HM := Lib.hid hm; have HSK := Lib.hid hsk
        have cs := bcell hm.bel HCS.out
        have HH0 := Lib.hid h0
        clear hm hsk ht0 h0
        go_wp2_with (go_at_call 26; (with_reducible refine (PS.out _).mono ?_); rintro e9 w' ⟨rfl, rfl⟩)
        all_goals first | (exfalso; omega) | skip
        refine (HM.out.send (i := 0) rfl (k : Int) two ss _ _ _ _ HSK.out HSS.out hin (by simp) (by simp)).mono ?_
        rintro x9 w5 ⟨B5, k5, rfl, hm5, hmany, -⟩
        obtain ⟨gB, rfl, hgB⟩ := hm5.addr (by simp)
        have hz5 := hmany.bel.size
        have HM5 := Lib.hid (hmany.more (K' := fun q => q = w5.heap.size) (fun q e => .inr (by omega)))
        have HX5 := Lib.hid hm5
        clear hmany hm5 cs HM
        go_wp2_with (at_builtin; refine wpList_append_lies _ rfl (.tmp 109) (.tmp 110) 28 rfl w.heap.size 23 i0 (.agg #[.int .i64 0, .int .i64 0, .int .i64 0, .int .i64 0, .int .i64 0]) 5 40 Try.underlying28 HI.out HZ0.out HZ1.out HZ2.out rfl (by decide) (.slice none 0 0) 0 [] rfl ⟨rfl, .inl ⟨rfl, rfl⟩⟩ ⟨gB, 0, none⟩ 1 k5 [.int .i64 1, .int .i64 one, .int .i64 3, .int .i64 two, .int .i64 0] rfl rfl (World.ownsRow.cells HX5.out rfl) (by simp [Value.oneCell']) (by omega) (by unfold maxLen; omega) (by omega) hz5 w5.heap.size rfl ?_; intro g2 cap w7 hown hgrow hat hlt)
        all_goals first | (exfalso; omega) | skip
        have hmany7 := HM5.out.below ((Below.refl w5.heap.size w5).grown hgrow (Nat.le_refl _) (fun q e => by simp [Value.ownBlock] at e))
        obtain rfl : g2 = w5.heap.size := by
          rcases hat with e | e
          · simp [Value.ownBlock] at e
          · exact e
        exact ⟨⟨k + 1, by omega, by omega, by go_num, by go_num, .inr ⟨by omega, w5.heap.size, cap, rfl, hmany7, SRow.app (l := []) (x := (⟨1, one, 3, two, 0⟩ : Am)) hown⟩⟩, by simp [Go.RowKit.intOf]; omega⟩
      · have ht0 : tabK two tl k = [(two, .inc (heldK tl k) 1 0 0)] := by unfold tabK; rw [if_neg (by omega)]
        rw [ht0, if_neg (by omega)] at hsk
        have HM := Lib.hid hm; have HSK := Lib.hid hsk; have HR := Lib.hid hrow
        have cs := bcell hm.bel HCS.out
        have hcap := hrow.cap
        have hgl : g < wx.heap.size := (hrow.bk rfl).2
        have HH0 := Lib.hid h0
        clear hm hsk ht0 hrow h0
        go_wp2_with (go_at_call 26; (with_reducible refine (PS.out _).mono ?_); rintro e9 w' ⟨rfl, rfl⟩)
        all_goals first | (exfalso; omega) | skip
        refine (HM.out.send (i := 0) rfl (k : Int) two ss _ _ _ _ HSK.out HSS.out hin (by simp) (by simp; unfold In64; omega)).mono ?_
        rintro x9 w5 ⟨B5, k5, rfl, -, hmany, hkp⟩
        have HM5 := Lib.hid (hmany.more (K' := fun q => q = g) (fun q e => .inl (.inl ⟨e, by omega⟩)))
        have HR5 := Lib.hid (SRow.stand HR.out hkp (fun q ⟨a, e, e2⟩ => by cases e; exact e2.symm))
        clear hmany hkp cs HM HR
        go_wp2_with (at_builtin; refine wpList_none rfl (.tmp 109) (.tmp 110) 28 rfl 23 i0 Try.underlying28 HI.out (some ⟨g, 0, none⟩) B5 1 sc 0 k5 rfl rfl hcap rfl ?_)
        all_goals first | (exfalso; omega) | skip
        exact ⟨⟨k + 1, by omega, by omega, by go_num, by go_num, .inr ⟨by omega, g, sc, rfl, HM5.out, HR5.out⟩⟩, by simp [Go.RowKit.intOf]; omega⟩
end Go.Proofs.Ytjdoemmfemogmaa.Ar
