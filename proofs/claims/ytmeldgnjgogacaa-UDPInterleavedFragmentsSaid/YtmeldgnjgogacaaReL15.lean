/-
  The walk of the law ReassemblyExpiresOnce.
-/
import Derived.Test.YtmeldgnjgogacaaReL15p
import Derived.Test.YtmeldgnjgogacaaReOne
namespace Go.Proofs.Ytmeldgnjgogacaa.Re
set_option maxRecDepth 100000
open Go.RowKit Go.Proofs.Ytmeldgnjgogacaa.Wire
open Go.Proofs.Ytmeldgnjgogacaa.Ip (Pk vlenB VLen)

def BK (B : Option Addr) (q : Nat) : Prop := ∃ a, B = some a ∧ a.block = q
/-- the table, beside a list of packets, both made since w -/
structure R15 (w : World) (T : Nat) (A : List (Ky × Hf)) (B : Option Addr) (c : Nat) (ps : List Pk) (W : World) : Prop where
  one : OneT w T A (BK B) W
  row : PRow W w.heap.size B c ps
section
variable {w W0 W : World} {T : Nat} {A : List (Ky × Hf)} {B : Option Addr} {c : Nat} {ps : List Pk}
theorem R15.bel (h : R15 w T A B c ps W) : Below w.heap.size w W := h.one.bel
theorem PRow.bk {lo : Nat} (h : PRow W lo B c ps) {q : Nat} (hq : BK B q) : lo ≤ q ∧ q < W.heap.size := by
  obtain ⟨a, e, rfl⟩ := hq
  subst e
  refine ⟨?_, h.lt⟩
  rcases h.2 with ⟨q, -⟩ | ⟨g', cap', cur, q, q1, -⟩
  · cases q
  · injection q with q2 q3 q4
    cases q2
    exact q1
theorem PRow.keptK {lo : Nat} {W' : World} (h : PRow W lo B c ps) (hk : ∀ q, BK B q → q < W.heap.size → W'.heap[q]? = W.heap[q]?) : PRow W' lo B c ps := h.kept (fun a e => hk _ ⟨a, e, rfl⟩ (h.bk ⟨a, e, rfl⟩).2)
theorem R15.below {W' : World} (h : R15 w T A B c ps W) (hb : Below W.heap.size W W') : R15 w T A B c ps W' := ⟨h.one.below hb, h.row.keptK (fun q _ hl => hb.block q hl)⟩
/-- Put at such a table: what it says, and the state behind it; what has been made since W0 stands -/
theorem R15.put (h0 : R15 w T A B c ps W0) (hb : Below W0.heap.size W0 W) (now : Int) (p : Pk) (A' : List (Ky × Hf)) (q : Pk) (ok : Bool) (err : Int) (he : putA A now p = (A', q, ok, err)) (hs : p.s.size ≤ 9223372036854775807) (hL : A.length < 8 ∨ keyOf p ∈ A.map (·.1)) (hl9 : A.length ≤ 900) (hnow : In64 now) :
    Calls Try.prog 16 #[.pointer (some ⟨T, 0, none⟩), .int .i64 now, .agg #[.int .i64 p.f, .int .i64 p.t, .int .i64 p.pr, .int .i64 p.ttl, .int .i64 p.id, .bool p.df, .bool p.mf, .int .i64 p.off, .string p.s]] W fun x w' => x = PutRes q ok err ∧ R15 w T A' B c ps w' ∧ ∀ k, W0.heap.size ≤ k → k < W.heap.size → w'.heap[k]? = W.heap[k]? := by
  have h1 := (h0.one.more (K' := fun q => BK B q ∨ W0.heap.size ≤ q) (fun q hq => hq)).below hb
  have hr := (h0.below hb).row
  refine (h1.put now p A' q ok err he hs hL hl9 hnow).mono ?_
  rintro x w' ⟨hx, ho, -, hk⟩
  exact ⟨hx, ⟨ho.more (fun q hq => .inl ⟨.inl hq, (hr.bk hq).2⟩), hr.keptK (fun q hq hl => hk q (.inl hq) hl)⟩, fun k h1 h2 => hk k (.inr h1) h2⟩
theorem R15.tick (h0 : R15 w T A B c ps W) (now : Int) (l2 : List Pk) (n : Nat) (hl : toldA now A = l2) (hn : l2.length = n) (A' : List (Ky × Hf)) (hk : keepA now A = A') (hL : A.length ≤ 1000) (hnow : In64 now) :
    Calls Try.prog 19 #[.pointer (some ⟨T, 0, none⟩), .int .i64 now] W fun x w' => (∃ B2 c2, x = .returned (.slice B2 n c2) ∧ PRow w' W.heap.size B2 c2 l2) ∧ OneT w T A' (fun q => BK B q ∨ W.heap.size ≤ q) w' ∧ PRow w' w.heap.size B c ps := by
  refine (h0.one.tick now l2 n hl hn A' hk hL hnow).mono ?_
  rintro x w' ⟨h1, h2, h3, h4⟩
  exact ⟨h1, h2, h0.row.keptK h4⟩
theorem pkC_snoc (ps : List Pk) (p : Pk) : pkC (ps ++ [p]) = pkC ps ++ [.int .i64 p.f, .int .i64 p.t, .int .i64 p.pr, .int .i64 p.ttl, .int .i64 p.id, .bool p.df, .bool p.mf, .int .i64 p.off, .string p.s] := by simp [pkC, List.flatMap_append]
/-- a packet is appended -/
theorem R15.app {W1 : World} {g cap : Nat} {p : Pk} (h : R15 w T A B c ps W)
    (ho : W1.ownsRow w.heap.size 30 9 (.slice (some ⟨g, 0, none⟩) (ps.length + 1) cap) (ps.length + 1) (pkC ps ++ [.int .i64 p.f, .int .i64 p.t, .int .i64 p.pr, .int .i64 p.ttl, .int .i64 p.id, .bool p.df, .bool p.mf, .int .i64 p.off, .string p.s])) (hg : W.grownBy W1 (Value.ownBlock (.slice B ps.length c))) (hw : Value.ownBlock (.slice B ps.length c) = some g ∨ W.heap.size ≤ g) : R15 w T A (some ⟨g, 0, none⟩) cap (ps ++ [p]) W1 := by
  have hob : ∀ k, Value.ownBlock (.slice B ps.length c) = some k → BK B k := fun k e => by
    cases B with
    | none => cases e
    | some a => exact ⟨a, rfl, by simpa [Value.ownBlock] using e⟩
  have h1 := (h.one.more (K' := fun q => BK B q ∨ W.heap.size ≤ q) (fun q hq => hq)).grown hg (fun k e => ⟨.inl (hob k e), (h.row.bk (hob k e)).1⟩)
  refine ⟨h1.more (fun q hq => ?_), ?_⟩
  · obtain ⟨a, e, rfl⟩ := hq
    cases e
    rcases hw with q | q
    · exact .inl (.inl (hob g q))
    · exact .inl (.inr q)
  · have : (ps ++ [p]).length = ps.length + 1 := by simp
    unfold PRow
    rw [this, pkC_snoc]
    exact ho
end
set_option maxHeartbeats 8000000 in
theorem once_law (A : Option Addr) (n c : Nat) (l : List Prw) (w : World) (hA : ArgP w A n l) :
    Calls Try.prog 8 #[.slice A n c] w fun x w' => x = .returned (.bool true) ∧ Below w.heap.size w w' := by
  have HA := Lib.hid hA
  have hn := hA.size
  clear hA
  go_enter Try.func8, Try.ntmps8
  go_wp2_with fail
  refine (examples_any _).mono ?_
  rintro x w1 ⟨rfl, hb1⟩
  have HB1 := Lib.hid hb1; clear hb1
  go_wp2_with fail
  refine (new_tt _).mono ?_
  intro x w2 hx
  obtain ⟨T, rfl, ho, -⟩ := OneT.ofNew HB1.out hx
  have HR : Hid (R15 w T [] none 0 [] w2) := Lib.hid ⟨ho.more (fun q ⟨a, e, _⟩ => by cases e), ⟨rfl, .inl ⟨rfl, rfl⟩⟩⟩
  clear ho hx
  go_wp2_with fail
  go_loopw [5, 6] (fun b i wr => ∃ (k : Nat) (B : Option Addr) (cb : Nat), k ≤ n ∧ k ≤ 8 ∧ i = .int .i64 (k : Int) ∧ b = .slice B (firstsE l k).length cb ∧ R15 w T (aE l k) B cb (firstsE l k) wr) (fun _ i _ => 8 - (Go.RowKit.intOf i).toNat)
  case atStart => exact ⟨0, none, 0, by omega, by omega, rfl, rfl, HR.out⟩
  case round =>
    clear HR
    obtain ⟨k, B, cb, hkn, hk8, rfl, rfl, hR⟩ := hrel
    have HR := Lib.hid hR; clear hR
    by_cases hlt : k < n ∧ k < 8
    · obtain ⟨b, o, x, rfl, hx, hbl, hok, c0, c1, c2, c3, c4⟩ := (HA.out.below HR.out.bel).at_ k hlt.1
      have HX := Lib.hid hx; have HOK := Lib.hid hok
      have k1 : (0 : Int) ≤ (k : Int) := by omega
      have k2 : (k : Int) < (n : Int) := by omega
      have k3 : (k : Int) < 8 := by omega
      have hle := firstsE_le l k
      clear hx hok
      go_wp2_with fail
      obtain ⟨P, hP⟩ : ∃ P, partOf x.wh x.of x.lo true x.od = P := ⟨_, rfl⟩
      have hpa := partOf_any x.wh x.of x.lo true x.od (wr.alloc (.cells #[.int .u8 ((x.wh : Nat) : Int), .int .u8 ((x.of : Nat) : Int), .int .u8 ((x.lo : Nat) : Int), .bool true, .int .u8 ((x.od : Nat) : Int)] 23)) HOK.out.1 HOK.out.2.1 HOK.out.2.2.1 HOK.out.2.2.2.2
      have hpe : pE x k = { P with id := 100 + (k : Int) } := by unfold pE; rw [hP]
      rw [hP] at hpa
      have hps := partOf_size x.wh x.of x.lo true x.od
      have hpl := partN_le x.lo true
      rw [hP] at hps
      have HPE := Lib.hid hpe; have HPS := Lib.hid hps; clear hpe hps hP
      refine hpa.mono ?_
      clear hpa
      rintro x2 w3 ⟨rfl, hb3⟩
      unfold PkV
      have HB3 : Hid (Below wr.heap.size wr (w3.alloc (.cells #[.int .i64 P.f, .int .i64 P.t, .int .i64 P.pr, .int .i64 P.ttl, .int .i64 (100 + (k : Int)), .bool P.df, .bool P.mf, .int .i64 P.off, .string P.s] 30))) := Lib.hid (below_alloc (below_call (below_alloc (Below.refl _ _)) hb3))
      have HN3 := Lib.hid (alloc_new w3 (.cells #[.int .i64 P.f, .int .i64 P.t, .int .i64 P.pr, .int .i64 P.ttl, .int .i64 (100 + (k : Int)), .bool P.df, .bool P.mf, .int .i64 P.off, .string P.s] 30))
      have hz3 : wr.heap.size ≤ w3.heap.size := by have := hb3.size; simp at this; omega
      clear hb3
      have HPUT := Lib.hid (R15.put HR.out HB3.out (k : Int) { P with id := 100 + (k : Int) } (aE l (k + 1)) pk0 false 0 (by rw [← HPE.out]; exact putA_E HX.out (by omega)) (by show P.s.size ≤ _; have := HPS.out; omega) (by rw [aE_length]; omega) (by rw [aE_length]; omega) (by unfold In64; omega))
      have e0 := (cell_of_block (k := 0) HN3.out rfl).1; have e1 := (cell_of_block (k := 1) HN3.out rfl).1; have e2 := (cell_of_block (k := 2) HN3.out rfl).1; have e3 := (cell_of_block (k := 3) HN3.out rfl).1; have e4 := (cell_of_block (k := 4) HN3.out rfl).1; have e5 := (cell_of_block (k := 5) HN3.out rfl).1; have e6 := (cell_of_block (k := 6) HN3.out rfl).1; have e7 := (cell_of_block (k := 7) HN3.out rfl).1; have e8 := (cell_of_block (k := 8) HN3.out rfl).1
      go_upto_region 13 with fail
      generalize w3.alloc (.cells #[.int .i64 P.f, .int .i64 P.t, .int .i64 P.pr, .int .i64 P.ttl, .int .i64 (100 + (k : Int)), .bool P.df, .bool P.mf, .int .i64 P.off, .string P.s] 30) = w4 at *
      go_wp2_with fail
      refine HPUT.out.mono ?_
      rintro x3 w5 ⟨rfl, hr5, hk5⟩
      unfold PutRes PkV pk0
      dsimp only
      have HR6 := Lib.hid (hr5.below ((Below.refl _ _).alloc (Nat.le_refl _) (.cells #[.int .i64 0, .int .i64 0, .int .i64 0, .int .i64 0, .int .i64 0, .bool false, .bool false, .int .i64 0, .string ⟨#[]⟩] 30)))
      have HN6 : Hid ((w5.alloc (.cells #[.int .i64 0, .int .i64 0, .int .i64 0, .int .i64 0, .int .i64 0, .bool false, .bool false, .int .i64 0, .string ⟨#[]⟩] 30)).heap[w3.heap.size]? = some (.cells #[.int .i64 P.f, .int .i64 P.t, .int .i64 P.pr, .int .i64 P.ttl, .int .i64 (100 + (k : Int)), .bool P.df, .bool P.mf, .int .i64 P.off, .string P.s] 30)) := Lib.hid (block_alloc ((hk5 _ hz3 (blk_lt HN3.out)).trans HN3.out) _)
      clear e0 e1 e2 e3 e4 e5 e6 e7 e8 hr5 hk5 HPUT
      have HFS := Lib.hid (firstsE_succ HX.out)
      have hpo : (pE x k).off = P.off := by rw [HPE.out]
      rw [hpo] at HFS
      clear hpo
      by_cases ho : P.off = 0
      · have d1 : (P.off == 0) = true := by rw [ho]; rfl
        rw [if_pos ho] at HFS
        clear ho
        go_upto_region 14 with fail
        generalize w5.alloc (.cells #[.int .i64 0, .int .i64 0, .int .i64 0, .int .i64 0, .int .i64 0, .bool false, .bool false, .int .i64 0, .string ⟨#[]⟩] 30) = w6 at *
        have e0 := (cell_of_block (k := 0) HN6.out rfl).1; have e1 := (cell_of_block (k := 1) HN6.out rfl).1; have e2 := (cell_of_block (k := 2) HN6.out rfl).1; have e3 := (cell_of_block (k := 3) HN6.out rfl).1; have e4 := (cell_of_block (k := 4) HN6.out rfl).1; have e5 := (cell_of_block (k := 5) HN6.out rfl).1; have e6 := (cell_of_block (k := 6) HN6.out rfl).1; have e7 := (cell_of_block (k := 7) HN6.out rfl).1; have e8 := (cell_of_block (k := 8) HN6.out rfl).1
        obtain ⟨i0, hi, hz0, hz1, hz2⟩ := info_parts infoPkA
        have hz6 := HR6.out.bel.size
        go_wp2_with (at_builtin; refine wpList_append_lies _ rfl (.tmp 53) (.tmp 55) 37 rfl w.heap.size 30 i0 (.agg #[.int .i64 0, .int .i64 0, .int .i64 0, .int .i64 0, .int .i64 0, .bool false, .bool false, .int .i64 0, .string ⟨#[]⟩]) 9 72 Try.underlying37 hi hz0 hz1 hz2 rfl (by decide) (.slice B (firstsE l k).length cb) (firstsE l k).length (pkC (firstsE l k)) rfl (HR6.out.row.alloc _) ⟨w6.heap.size, 0, none⟩ 1 1 [.int .i64 P.f, .int .i64 P.t, .int .i64 P.pr, .int .i64 P.ttl, .int .i64 (100 + (k : Int)), .bool P.df, .bool P.mf, .int .i64 P.off, .string P.s] rfl rfl (World.news_of_block (heap_alloc_new w6 _)) (by simp [Value.oneCell']) (by omega) (by unfold maxLen; omega) (by omega) (by simp; omega) (w6.heap.size + 1) (by simp) ?_; intro g cap w7 hown hgrow hat hlt)
        have HR7 := Lib.hid ((HR6.out.below ((Below.refl _ _).alloc (Nat.le_refl _) (.cells #[.int .i64 P.f, .int .i64 P.t, .int .i64 P.pr, .int .i64 P.ttl, .int .i64 (100 + (k : Int)), .bool P.df, .bool P.mf, .int .i64 P.off, .string P.s] 30))).app (p := { P with id := 100 + (k : Int) }) hown hgrow (hat.imp id (fun q => by simp; omega)))
        rw [← HPE.out, ← HFS.out] at HR7
        have HFL : Hid ((firstsE l (k + 1)).length = (firstsE l k).length + 1) := Lib.hid (by rw [HFS.out]; simp)
        clear hown hgrow hat hlt e0 e1 e2 e3 e4 e5 e6 e7 e8
        go_wp2_with fail
        exact ⟨⟨k + 1, some ⟨g, 0, none⟩, cap, by omega, by omega, by go_num, by rw [HFL.out], HR7.out⟩, by simp [Go.RowKit.intOf]; omega⟩
      · have d1 : (P.off == 0) = false := by rw [beq_eq_false_iff_ne]; exact ho
        rw [if_neg ho, List.append_nil] at HFS
        clear ho
        go_upto_region 14 with fail
        generalize w5.alloc (.cells #[.int .i64 0, .int .i64 0, .int .i64 0, .int .i64 0, .int .i64 0, .bool false, .bool false, .int .i64 0, .string ⟨#[]⟩] 30) = w6 at *
        have e7 := (cell_of_block (k := 7) HN6.out rfl).1
        go_wp2_with fail
        exact ⟨⟨k + 1, B, cb, by omega, by omega, by go_num, by rw [HFS.out], by rw [HFS.out]; exact HR6.out⟩, by simp [Go.RowKit.intOf]; omega⟩
    · have hle := firstsE_le l k
      have HK8 := Lib.hid hk8
      have k0 : (0 : Int) ≤ (k : Int) := by omega
      have HTK := Lib.hid (R15.tick HR.out 1000 (firstsE l k) (firstsE l k).length (told_E hk8) rfl [] (keep_E hk8) (by rw [aE_length]; omega) (by unfold In64; omega))
      have d2 : k < n → decide ((k : Int) < 8) = false := fun h => by simp; omega
      by_cases hkn2 : k < n
      · have d1 : decide ((k : Int) < (n : Int)) = true := by simp; omega
        have d2 := d2 hkn2
        clear hlt hk8
        go_wp2_with fail
        refine HTK.out.mono ?_
        rintro x s1 ⟨⟨B2, c2, rfl, hr⟩, ho1, hr1⟩
        have HT2 := Lib.hid hr; have HO1 := Lib.hid ho1; have HR1 := Lib.hid hr1; clear hr ho1 hr1 HTK
        go_wp2_with fail
        refine (HO1.out.sizes 0 0 rfl rfl (by omega)).mono ?_
        rintro x s2 ⟨rfl, hb2⟩
        have HO2 := Lib.hid (HO1.out.below hb2); have HT3 := Lib.hid (HT2.out.keptK (fun q _ hl => hb2.block q hl)); have HR2 := Lib.hid (HR1.out.keptK (fun q _ hl => hb2.block q hl))
        clear hb2 HT2 HO1 HR1
        go_wp2_with fail
        refine (HO2.out.tick 2000 [] 0 rfl rfl [] rfl (by simp) (by unfold In64; omega)).mono ?_
        rintro x s3 ⟨⟨B4, c4, rfl, -⟩, ho3, -, hk3⟩
        have HO3 := Lib.hid ho3.bel
        have HT4 := Lib.hid (HT3.out.keptK (fun q hq hl => hk3 q (.inr (HT3.out.bk hq).1) hl)); have HR3 := Lib.hid (HR2.out.keptK (fun q hq hl => hk3 q (.inl hq) hl))
        have HSM := Lib.hid (same_any _ _ _ _ B2 B c2 cb s3 HT4.out HR3.out ⟨by have := HK8.out; have := firstsE_le l k; omega, by have := HK8.out; have := firstsE_le l k; omega⟩)
        rw [decide_eq_true rfl] at HSM
        clear ho3 hk3 HT3 HR2 HO2
        go_wp2_with fail
        refine HSM.out.mono ?_
        rintro x s4 ⟨rfl, hb4⟩
        have HB4 := Lib.hid (below_call HO3.out hb4); clear hb4
        go_wp2_with fail
        go_ret
        exact ⟨rfl, HB4.out⟩
      · have d1 : decide ((k : Int) < (n : Int)) = false := by simp; omega
        clear hlt hk8 d2
        go_wp2_with fail
        refine HTK.out.mono ?_
        rintro x s1 ⟨⟨B2, c2, rfl, hr⟩, ho1, hr1⟩
        have HT2 := Lib.hid hr; have HO1 := Lib.hid ho1; have HR1 := Lib.hid hr1; clear hr ho1 hr1 HTK
        go_wp2_with fail
        refine (HO1.out.sizes 0 0 rfl rfl (by omega)).mono ?_
        rintro x s2 ⟨rfl, hb2⟩
        have HO2 := Lib.hid (HO1.out.below hb2); have HT3 := Lib.hid (HT2.out.keptK (fun q _ hl => hb2.block q hl)); have HR2 := Lib.hid (HR1.out.keptK (fun q _ hl => hb2.block q hl))
        clear hb2 HT2 HO1 HR1
        go_wp2_with fail
        refine (HO2.out.tick 2000 [] 0 rfl rfl [] rfl (by simp) (by unfold In64; omega)).mono ?_
        rintro x s3 ⟨⟨B4, c4, rfl, -⟩, ho3, -, hk3⟩
        have HO3 := Lib.hid ho3.bel
        have HT4 := Lib.hid (HT3.out.keptK (fun q hq hl => hk3 q (.inr (HT3.out.bk hq).1) hl)); have HR3 := Lib.hid (HR2.out.keptK (fun q hq hl => hk3 q (.inl hq) hl))
        have HSM := Lib.hid (same_any _ _ _ _ B2 B c2 cb s3 HT4.out HR3.out ⟨by have := HK8.out; have := firstsE_le l k; omega, by have := HK8.out; have := firstsE_le l k; omega⟩)
        rw [decide_eq_true rfl] at HSM
        clear ho3 hk3 HT3 HR2 HO2
        go_wp2_with fail
        refine HSM.out.mono ?_
        rintro x s4 ⟨rfl, hb4⟩
        have HB4 := Lib.hid (below_call HO3.out hb4); clear hb4
        go_wp2_with fail
        go_ret
        exact ⟨rfl, HB4.out⟩
end Go.Proofs.Ytmeldgnjgogacaa.Re
