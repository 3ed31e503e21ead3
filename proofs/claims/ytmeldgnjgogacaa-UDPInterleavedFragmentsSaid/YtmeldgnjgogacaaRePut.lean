/-
  The contract of (*Table).Put at a fragment.
-/
import Derived.Test.YtmeldgnjgogacaaReAbs
namespace Go.Proofs.Ytmeldgnjgogacaa.Re
set_option maxRecDepth 100000
open Go.RowKit Go.Proofs.Ytmeldgnjgogacaa.Wire
open Go.Proofs.Ytmeldgnjgogacaa.Ip (Pk vlenB)

/-- the results of a function whose first result is a struct in memory, and two more -/
theorem res_cell3 {P : Program} {fn : Func} {p q r : Tmp} {ty : TypeId} (h : fn.results = #[.cell p ty, .tmp q, .tmp r]) {tmps : Array Value} {w : World} {g : Nat} {t : TypeId} {cs : Array Value} {fr : Nat × Nat} {d : TypeDesc}
    (hg : w.heap[g]? = some (.cells cs t fr)) (hp : tmps.getD p undef = .pointer (some ⟨g, 0, none⟩))
    (hu : P.underlying ty = some d) (hd : (match d with | .struct _ | .array _ _ => true | _ => false) = true) (hi : (P.info? ty).map (·.size) = some cs.size) :
    (results fn tmps).run P w = .ok (.tuple #[.agg cs, tmps.getD q undef, tmps.getD r undef]) w := by
  have hp' : tmps[p]?.getD undef = .pointer (some ⟨g, 0, none⟩) := by simpa using hp
  simp [results, h, hp', asAddr, run_loadVar_row w g t ty cs fr d hg hu hd hi]
theorem infoPkt : (Try.prog.info? 30).map (·.size) = some 9 := by kernel_rfl
def PutPost (w : World) (T m : Nat) (O : Option Addr) (L : List En) (r : List (Ky × Hf) × Pk × Bool × Int) (x : Ending) (w' : World) : Prop :=
  x = .returned (.tuple #[.agg #[.int .i64 r.2.1.f, .int .i64 r.2.1.t, .int .i64 r.2.1.pr, .int .i64 r.2.1.ttl, .int .i64 r.2.1.id, .bool r.2.1.df, .bool r.2.1.mf, .int .i64 r.2.1.off, .string r.2.1.s], .bool r.2.2.1, .int .i64 r.2.2.2]) ∧
    ∃ es clk O' oc L', Tab w' T m es clk O' oc L' ∧ abs L' = r.1 ∧ (∀ e ∈ L', HInv e.H) ∧ Chg (TOwn T m O L) w w' ∧ ∀ q, TOwn T m O' L' q → TOwn T m O L q ∨ w.heap.size ≤ q
theorem find_put {L L1 : List En} {k : Ky} {now : Int} {i : Nat} {e : En} {p : Pk} (hk : k = keyOf p) (hi : L1[i]? = some e) (hv : vldB p = true) (hf : p.mf = true ∨ p.off ≠ 0) (hinv : ∀ e ∈ L, HInv e.H)
    (h : ((∃ f, L[i]? = some f ∧ f.k = k ∧ e = f) ∧ L1 = L ∧ hasK (abs L) k = some i) ∨ (i = L.length ∧ hasK (abs L) k = none ∧ abs L1 = abs L ++ [(k, newF now)] ∧ e.H = newF now)) :
    putA (abs L) now p = putH (abs L1) i (keyOf p) e.H p ∧ ∀ e ∈ L1, HInv e.H := by
  subst hk
  have hf' : ¬ (p.mf = false ∧ p.off = 0) := by rintro ⟨a, b⟩; rcases hf with q | q; (rw [a] at q; cases q); exact q b
  have e1 : putA (abs L) now p = match hasK (abs L) (keyOf p) with
    | some i => putH (abs L) i (keyOf p) (((abs L)[i]?.map (·.2)).getD (newF now)) p
    | none => putH (abs L ++ [(keyOf p, newF now)]) (abs L).length (keyOf p) (newF now) p := by
    unfold putA; rw [hv, if_neg (by simp), if_neg hf']; cases hasK (abs L) (keyOf p) <;> rfl
  rw [e1]
  rcases h with ⟨⟨f, hf1, -, rfl⟩, rfl, h3⟩ | ⟨rfl, h2, h3, h4⟩
  · rw [h3]
    refine ⟨?_, hinv⟩
    show putH _ i _ _ p = _
    rw [abs_get hi]; rfl
  · rw [h2, h3, h4]
    refine ⟨by simp [abs], fun x hx => ?_⟩
    have : (x.k, x.H) ∈ abs L1 := List.mem_map.2 ⟨x, hx, rfl⟩
    rw [h3, List.mem_append] at this
    rcases this with q | q
    · obtain ⟨y, hy, hxy⟩ := List.mem_map.1 q
      have : y.H = x.H := congrArg Prod.snd hxy
      rw [← this]; exact hinv y hy
    · have : x.H = newF now := by simp at q; exact q.2
      rw [this]; exact hinv_new now
theorem push_fold : ∀ (l : List UInt8) (b : ByteArray), ((l.map fun x => ((x.toNat : Nat) : Int)).foldl (fun r n => r.push (UInt8.ofNat n.toNat)) b) = ⟨b.data ++ l.toArray⟩
  | [], b => by cases b; simp
  | x :: l, b => by
    rw [List.map_cons, List.foldl_cons, push_fold l]
    have : UInt8.ofNat ((x.toNat : Int)).toNat = x := by simp
    rw [this]
    congr 1
    simp [ByteArray.push]
theorem conv_sl {W : World} {A : Option Addr} {n c : Nat} {l : List UInt8} (h : Sl W (.slice A n c) 5 (byC l)) (hn : n = l.length) : (convert 41 9 (.slice A n c)).run Try.prog W = .ok (.string ⟨l.toArray⟩) W := by
  subst hn
  rw [run_convert_bytes_string W _ _ _ A l.length c Try.underlying41 Try.underlying5 Try.underlying9]
  rcases h.2 with ⟨e, h0⟩ | ⟨g, cap, cur, e, -⟩
  · have hl : l = [] := List.eq_nil_of_length_eq_zero (by simpa [byC] using h0)
    subst hl
    injection e with e1 e2 e3
    subst e1; subst e3
    rfl
  · injection e with e1 e2 e3
    subst e1
    have hc : ∀ j u, (byC l)[j]? = some u → W.cell? ((⟨g, 0, none⟩ : Addr).add j) = some u := World.ownsRow.cells h rfl
    have hld := run_loadCells_list (P := Try.prog) W ⟨g, 0, none⟩ (byC l) hc
    have hbl : byC l = (l.map fun x => ((x.toNat : Nat) : Int)).map (Value.int .u8) := by simp [byC]
    rw [show (byC l).length = l.length by simp [byC], hbl] at hld
    rw [run_bytesToString W ⟨g, 0, none⟩ l.length c _ hld, push_fold]
    congr 2
    have : ByteArray.empty.data = #[] := rfl
    rw [this, Array.empty_append]
theorem vld_bounds {p : Pk} (h : vldB p = true) : 0 ≤ p.off ∧ p.off + p.s.size ≤ 4000 := by
  unfold vldB vlenB at h
  have h := of_decide_eq_true h
  exact ⟨h.2.2.1.1, h.2.2.1.2.2.2⟩
theorem erase_set {α : Type} : ∀ (l : List α) (i : Nat) (x : α), (l.set i x).eraseIdx i = l.eraseIdx i
  | [], _, _ => rfl
  | _ :: _, 0, _ => rfl
  | a :: l, i + 1, x => by simp [erase_set l i x]
theorem drew_heap {W : World} {b : Nat} {o : Obj} (h : W.heap[b]? = some o) : W.drew.heap[b]? = some o := h
theorem put_end {w w3 W : World} {T m clk1 oc1 rb : Nat} {es1 : Array MapEntry} {O O1 : Option Addr} {L L1 : List En} (hT : Tab w3 T m es1 clk1 O1 oc1 L1) (hC : Chg (TOwn T m O L) w w3) (hr1 : w.heap.size ≤ rb) (hr2 : ¬ TOwn T m O1 L1 rb) (hg : w3.grownBy W (some rb)) :
    Tab W T m es1 clk1 O1 oc1 L1 ∧ Chg (TOwn T m O L) w W :=
  ⟨hT.kept (fun q hq => hg.block q (hT.lt hq) (fun e => hr2 (by cases e; exact hq))), hC.grown hg (fun q e => by cases e; exact .inr hr1)⟩
set_option maxHeartbeats 8000000 in
theorem put_main (T m : Nat) (es : Array MapEntry) (clk : Nat) (O : Option Addr) (oc : Nat) (L : List En) (now : Int) (p : Pk) (w : World) (h : Tab w T m es clk O oc L) (hinv : ∀ e ∈ L, HInv e.H) (hv : vldB p = true) (hf : p.mf = true ∨ p.off ≠ 0) (hs : p.s.size ≤ 9223372036854775807) (hL : L.length < 8 ∨ keyOf p ∈ L.map (·.k)) (hl9 : L.length ≤ 900) :
    Calls Try.prog 16 #[.pointer (some ⟨T, 0, none⟩), .int .i64 now, .agg #[.int .i64 p.f, .int .i64 p.t, .int .i64 p.pr, .int .i64 p.ttl, .int .i64 p.id, .bool p.df, .bool p.mf, .int .i64 p.off, .string p.s]] w (PutPost w T m O L (putA (abs L) now p)) := by
  have HT0 := Lib.hid h; have HI0 := Lib.hid hinv; have HL0 := Lib.hid hL
  have HL1000 := Lib.hid hl9; clear hl9
  have HV := Lib.hid hv; have HFR := Lib.hid hf
  have HVAL := Lib.hid fun W => Ip.valid_any p.f p.t p.pr p.ttl p.id p.df p.mf p.off p.s W hs
  have hv2 : vlenB p.f p.t p.pr p.ttl p.id p.df p.mf p.off p.s.size = true := hv
  rw [hv2] at HVAL; clear hv2 hv hinv hL
  have hp := alloc_new w (.cells #[.int .i64 p.f, .int .i64 p.t, .int .i64 p.pr, .int .i64 p.ttl, .int .i64 p.id, .bool p.df, .bool p.mf, .int .i64 p.off, .string p.s] 30)
  have HP := Lib.hid (block_alloc hp (.cells #[.int .i64 0, .int .i64 0, .int .i64 0, .int .i64 0, .int .i64 0, .bool false, .bool false, .int .i64 0, .string ⟨#[]⟩] 30)); clear hp
  have HR := Lib.hid (alloc_new' (w.alloc (.cells #[.int .i64 p.f, .int .i64 p.t, .int .i64 p.pr, .int .i64 p.ttl, .int .i64 p.id, .bool p.df, .bool p.mf, .int .i64 p.off, .string p.s] 30)) (.cells #[.int .i64 0, .int .i64 0, .int .i64 0, .int .i64 0, .int .i64 0, .bool false, .bool false, .int .i64 0, .string ⟨#[]⟩] 30) (w.heap.size + 1) (by simp))
  have HB := Lib.hid (below_alloc (o := .cells #[.int .i64 0, .int .i64 0, .int .i64 0, .int .i64 0, .int .i64 0, .bool false, .bool false, .int .i64 0, .string ⟨#[]⟩] 30) (below_alloc (o := .cells #[.int .i64 p.f, .int .i64 p.t, .int .i64 p.pr, .int .i64 p.ttl, .int .i64 p.id, .bool p.df, .bool p.mf, .int .i64 p.off, .string p.s] 30) (Below.refl w.heap.size w)))
  have hT0 := h.lt (.inl rfl : TOwn T m O L T)
  go_enter Try.func16, Try.ntmps16
  clear h
  go_wp2_with fail
  refine (HVAL.out _).mono ?_
  rintro x w1 ⟨rfl, hb⟩
  have HP' := Lib.hid (bblock hb HP.out); clear HP; have HP := HP'; clear HP'
  have HR' := Lib.hid (bblock hb HR.out); clear HR; have HR := HR'; clear HR'
  have HB' := Lib.hid (below_call HB.out hb); clear HB hb; have HB := HB'; clear HB'
  have qp0 := (cell_of_block (k := 0) HP.out rfl).1; have qp1 := (cell_of_block (k := 1) HP.out rfl).1; have qp2 := (cell_of_block (k := 2) HP.out rfl).1; have qp4 := (cell_of_block (k := 4) HP.out rfl).1; have qp6 := (cell_of_block (k := 6) HP.out rfl).1; have qp7 := (cell_of_block (k := 7) HP.out rfl).1
  have lt1 := blk_lt HP.out; have lt2 := blk_lt HR.out
  go_upto_region 5 with fail
  go_cut [25] (fun s25 wx => s25 = .bool false ∧ wx = w1)
  case first =>
    rcases HFR.out with hm | hm
    · rw [hm] at qp6
      go_wp2_with fail
      go_meet
      exact ⟨rfl, rfl⟩
    · have h0 : (p.off == 0) = false := by simp [hm]
      generalize p.mf = M at *
      cases M
      all_goals
        go_wp2_with fail
        go_meet
        exact ⟨rfl, rfl⟩
  case rest =>
    obtain ⟨rfl, rfl⟩ := hcut
    clear HVAL hf hs
    obtain ⟨w1, rfl⟩ : ∃ wo : World, wo = wc := ⟨_, rfl⟩
    go_upto_region 8 with fail
    have HK := Lib.hid (alloc_new w1 (.cells #[.int .i64 p.f, .int .i64 p.t, .int .i64 p.pr, .int .i64 p.id] 79))
    have HP' := Lib.hid (block_alloc HP.out (.cells #[.int .i64 p.f, .int .i64 p.t, .int .i64 p.pr, .int .i64 p.id] 79)); clear HP; have HP := HP'; clear HP'
    have HR' := Lib.hid (block_alloc HR.out (.cells #[.int .i64 p.f, .int .i64 p.t, .int .i64 p.pr, .int .i64 p.id] 79)); clear HR; have HR := HR'; clear HR'
    have HB' := Lib.hid (below_alloc (o := .cells #[.int .i64 p.f, .int .i64 p.t, .int .i64 p.pr, .int .i64 p.id] 79) HB.out); clear HB; have HB := HB'; clear HB'
    clear qp0 qp1 qp2 qp4 qp6 qp7 lt1 lt2
    have lt0 := HB.out.size
    obtain ⟨kb, hkb⟩ : ∃ kb, w1.heap.size = kb := ⟨_, rfl⟩
    rw [hkb] at HK
    have hkb2 : w.heap.size ≤ kb := by rw [← hkb]; have := blk_lt HP.out; simp at this; omega
    generalize w1.alloc (.cells #[.int .i64 p.f, .int .i64 p.t, .int .i64 p.pr, .int .i64 p.id] 79) = w2 at *
    rw [hkb]; clear hkb
    have HT2 := Lib.hid (HT0.out.below HB.out)
    have qk0 := (cell_of_block (k := 0) HK.out rfl).1; have qk1 := (cell_of_block (k := 1) HK.out rfl).1; have qk2 := (cell_of_block (k := 2) HK.out rfl).1; have qk3 := (cell_of_block (k := 3) HK.out rfl).1
    have HFI := Lib.hid (find_any T m es clk O oc L (keyOf p) now w2 HT2.out HL0.out)
    unfold keyOf at HFI
    go_wp2_with fail
    refine HFI.out.mono ?_
    rintro x w3 ⟨es1, clk1, O1, oc1, L1, i, e, rfl, hT3, hi, hek, hcase, hC3, hown3⟩
    have hlow : ∀ q, TOwn T m O L q → q < w.heap.size := fun q hq => HT0.out.lt hq
    have hsz2 := HB.out.size
    have hnew : ∀ q, w.heap.size ≤ q → q < w2.heap.size → ¬ TOwn T m O1 L1 q := fun q h1 h2 hq => by rcases hown3 q hq with r | r; (have := hlow q r; omega); omega
    have hkeep : ∀ q, w.heap.size ≤ q → q < w2.heap.size → w3.heap[q]? = w2.heap[q]? := fun q h1 h2 => hC3.block q h2 (fun r => by have := hlow q r; omega)
    have hP := blk_lt HP.out; have hR := blk_lt HR.out; have hK := blk_lt HK.out
    obtain ⟨hres, hi1⟩ := find_put rfl hi HV.out HFR.out HI0.out hcase
    have HLX : Hid (L1.length ≤ 990) := Lib.hid (by rcases hcase with ⟨-, q, -⟩ | ⟨-, -, q, -⟩; (rw [q]; have := HL1000.out; omega); (have := congrArg List.length q; simp [abs] at this; have := HL1000.out; omega))
    have HRES := Lib.hid hres; have HI1 := Lib.hid hi1; have HI := Lib.hid hi
    have HC := Lib.hid ((Chg.of_below (S := TOwn T m O L) HB.out).trans hC3 (fun _ q => .inl q))
    have HO : Hid (∀ q, TOwn T m O1 L1 q → TOwn T m O L q ∨ w.heap.size ≤ q) := Lib.hid fun q hq => (hown3 q hq).imp id (fun r => by omega)
    have NP := Lib.hid (hnew w.heap.size (Nat.le_refl _) hP); have NR := Lib.hid (hnew (w.heap.size + 1) (by omega) hR); have NK := Lib.hid (hnew kb hkb2 hK)
    have HP' := Lib.hid ((hkeep _ (Nat.le_refl _) hP).trans HP.out); have HR' := Lib.hid ((hkeep _ (by omega) hR).trans HR.out); have HK' := Lib.hid ((hkeep _ hkb2 hK).trans HK.out)
    have HEK := Lib.hid hek
    have HT := Lib.hid hT3
    clear HP HR HK hT3 hi hek hcase hC3 hown3 hlow hnew hkeep hres hi1 hP hR hK qk0 qk1 qk2 qk3 HFI HB HT2 lt0 hsz2
    have HP := HP'; have HR := HR'; have HK := HK'; clear HP' HR' HK'
    have HOK := Lib.hid (HT.out.half e (List.mem_of_getElem? HI.out))
    have HIE := Lib.hid (HI1.out e (List.mem_of_getElem? HI.out))
    have Hh := Lib.hid HOK.out.1.1
    have qh1 := (cell_of_block (k := 1) Hh.out rfl).1
    obtain ⟨Rj, hRj⟩ : ∃ b, e.H.rej = b := ⟨_, rfl⟩
    rw [hRj] at qh1
    have HRJ := Lib.hid hRj; clear hRj Hh
    cases Rj with
    | true =>
      have qR0 := (cell_of_block (k := 0) HR.out rfl).1; have zR0 := (cell_of_block (k := 0) HR.out rfl).2; have qR1 := (cell_of_block (k := 1) HR.out rfl).1; have zR1 := (cell_of_block (k := 1) HR.out rfl).2; have qR2 := (cell_of_block (k := 2) HR.out rfl).1; have zR2 := (cell_of_block (k := 2) HR.out rfl).2; have qR3 := (cell_of_block (k := 3) HR.out rfl).1; have zR3 := (cell_of_block (k := 3) HR.out rfl).2; have qR4 := (cell_of_block (k := 4) HR.out rfl).1; have zR4 := (cell_of_block (k := 4) HR.out rfl).2; have qR5 := (cell_of_block (k := 5) HR.out rfl).1; have zR5 := (cell_of_block (k := 5) HR.out rfl).2; have qR6 := (cell_of_block (k := 6) HR.out rfl).1; have zR6 := (cell_of_block (k := 6) HR.out rfl).2; have qR7 := (cell_of_block (k := 7) HR.out rfl).1; have zR7 := (cell_of_block (k := 7) HR.out rfl).2; have qR8 := (cell_of_block (k := 8) HR.out rfl).1; have zR8 := (cell_of_block (k := 8) HR.out rfl).2; have lt_R := blk_lt HR.out
      go_wp2_with fail
      have hpr : putH (abs L1) i (keyOf p) e.H p = (abs L1, pk0, false, 70) := by unfold putH; rw [if_pos HRJ.out]
      have HZ := stN_all [.int .i64 0, .int .i64 0, .int .i64 0, .int .i64 0, .int .i64 0, .bool false, .bool false, .int .i64 0, .string ⟨#[]⟩] HR.out rfl
      refine bodyPost_ret (v := .tuple #[.agg #[.int .i64 0, .int .i64 0, .int .i64 0, .int .i64 0, .int .i64 0, .bool false, .bool false, .int .i64 0, .string ⟨#[]⟩], .bool false, .int .i64 70]) (res_cell3 Try.results16 (by exact HZ) rfl Try.underlying30 rfl infoPkt) rfl ?_
      obtain ⟨hTz, hCz⟩ := put_end HT.out HC.out (Nat.le_succ _) NR.out (stN_only (B := w.heap.size + 1) [.int .i64 0, .int .i64 0, .int .i64 0, .int .i64 0, .int .i64 0, .bool false, .bool false, .int .i64 0, .string ⟨#[]⟩] 0 (World.grownBy.refl w3 _))
      refine ⟨?_, es1, clk1, O1, oc1, L1, hTz, ?_, HI1.out, hCz, HO.out⟩
      · rw [HRES.out, hpr]; rfl
      · rw [HRES.out, hpr]
    | false =>
      have hpb := vld_bounds HV.out
      have HCF := Lib.hid (conflicts_any e.H p e.hb e.Ab e.cb e.Ah e.ch w3 HOK.out.1 HIE.out.len hpb.1 (by omega) ⟨HIE.out.en.1, by have := HIE.out.en.2; omega⟩)
      have qP0 := (cell_of_block (k := 0) HP.out rfl).1; have zP0 := (cell_of_block (k := 0) HP.out rfl).2; have qP1 := (cell_of_block (k := 1) HP.out rfl).1; have zP1 := (cell_of_block (k := 1) HP.out rfl).2; have qP2 := (cell_of_block (k := 2) HP.out rfl).1; have zP2 := (cell_of_block (k := 2) HP.out rfl).2; have qP3 := (cell_of_block (k := 3) HP.out rfl).1; have zP3 := (cell_of_block (k := 3) HP.out rfl).2; have qP4 := (cell_of_block (k := 4) HP.out rfl).1; have zP4 := (cell_of_block (k := 4) HP.out rfl).2; have qP5 := (cell_of_block (k := 5) HP.out rfl).1; have zP5 := (cell_of_block (k := 5) HP.out rfl).2; have qP6 := (cell_of_block (k := 6) HP.out rfl).1; have zP6 := (cell_of_block (k := 6) HP.out rfl).2; have qP7 := (cell_of_block (k := 7) HP.out rfl).1; have zP7 := (cell_of_block (k := 7) HP.out rfl).2; have qP8 := (cell_of_block (k := 8) HP.out rfl).1; have zP8 := (cell_of_block (k := 8) HP.out rfl).2; have lt_P := blk_lt HP.out
      go_wp2_with fail
      obtain ⟨cf, hcf⟩ : ∃ b, conflB e.H p = b := ⟨_, rfl⟩
      rw [hcf] at HCF
      have HCFB := Lib.hid hcf; clear hcf
      refine HCF.out.mono ?_
      rintro x w4 ⟨rfl, hb⟩
      clear qP0 zP0 qP1 zP1 qP2 zP2 qP3 zP3 qP4 zP4 qP5 zP5 qP6 zP6 qP7 zP7 qP8 zP8 lt_P
      clear qh1
      have HP' := Lib.hid (bblock hb HP.out); clear HP; have HP := HP'; clear HP'
      have HR' := Lib.hid (bblock hb HR.out); clear HR; have HR := HR'; clear HR'
      have HK' := Lib.hid (bblock hb HK.out); clear HK; have HK := HK'; clear HK'
      have HT' := Lib.hid (HT.out.below hb); clear HT; have HT := HT'; clear HT'
      have HC' := Lib.hid (HC.out.call hb); clear HC; have HC := HC'; clear HC'
      have HH4 := Lib.hid (HOK.out.1.below hb); clear hb
      cases cf with
      | true =>
        go_wp2_with fail
        refine (reject_any e.H e.hb e.Ab e.cb e.Ah e.ch w4 HH4.out).mono ?_
        rintro x w5 ⟨rfl, hH5, hg5⟩
        have hmem := List.mem_of_getElem? HI.out
        have hst : HSt e.own w4 w5 e.hb (rejF e.H) none 0 none 0 := ⟨hH5, ⟨(fun a q => by cases q), (fun a q => by cases q), (fun a c q => by cases q)⟩, (Chg.refl _ _).grown hg5 (fun q r => by cases r; exact .inl (.inl rfl)), fun q r => by
          rcases r with r | ⟨a, r, -⟩ | ⟨a, r, -⟩
          · exact .inl (.inl r)
          · cases r
          · cases r⟩
        have hie := hinv_rej e.H
        obtain ⟨hT5, ho5, hc5⟩ := HT.out.setHalf (e' := { k := keyOf p, H := rejF e.H, hb := e.hb, Ab := none, cb := 0, Ah := none, ch := 0 }) HI.out HEK.out.symm rfl hst (fun q r => r)
        have hn5 : ∀ q, TOwn T m O1 (L1.set i { k := keyOf p, H := rejF e.H, hb := e.hb, Ab := none, cb := 0, Ah := none, ch := 0 }) q → TOwn T m O1 L1 q ∨ w4.heap.size ≤ q := ho5
        have HP' := Lib.hid ((hst.chg.block _ (blk_lt HP.out) (fun r => NP.out (.inr (.inr (.inr ⟨e, hmem, r⟩))))).trans HP.out)
        have NP' := Lib.hid (fun r => (hn5 (w.heap.size) r).elim NP.out (fun r2 => by have := blk_lt HP.out; omega))
        have HR' := Lib.hid ((hst.chg.block _ (blk_lt HR.out) (fun r => NR.out (.inr (.inr (.inr ⟨e, hmem, r⟩))))).trans HR.out)
        have NR' := Lib.hid (fun r => (hn5 (w.heap.size + 1) r).elim NR.out (fun r2 => by have := blk_lt HR.out; omega))
        have HK' := Lib.hid ((hst.chg.block _ (blk_lt HK.out) (fun r => NK.out (.inr (.inr (.inr ⟨e, hmem, r⟩))))).trans HK.out)
        have NK' := Lib.hid (fun r => (hn5 (kb) r).elim NK.out (fun r2 => by have := blk_lt HK.out; omega))
        have HT5 := Lib.hid hT5
        have HC5 := Lib.hid (HC.out.trans hc5 (fun q r => HO.out q r))
        have hsz4 := HC.out.size
        have HO5 : Hid (∀ q, TOwn T m O1 (L1.set i { k := keyOf p, H := rejF e.H, hb := e.hb, Ab := none, cb := 0, Ah := none, ch := 0 }) q → TOwn T m O L q ∨ w.heap.size ≤ q) := Lib.hid fun q r => (hn5 q r).elim (HO.out q) (fun r2 => .inr (by omega))
        have HI5 : Hid (∀ x ∈ L1.set i { k := keyOf p, H := rejF e.H, hb := e.hb, Ab := none, cb := 0, Ah := none, ch := 0 }, HInv x.H) := Lib.hid fun x hx => by
          rcases List.mem_or_eq_of_mem_set hx with r | r
          · exact HI1.out x r
          · subst r; exact hie
        clear HP HR HK hT5 ho5 hc5 hn5 hst hH5 hg5 hie HT HC HO HI1 NP NR NK HH4 HOK HIE hsz4
        have HR := HR'; have HP := HP'
        have qR0 := (cell_of_block (k := 0) HR.out rfl).1; have zR0 := (cell_of_block (k := 0) HR.out rfl).2; have qR1 := (cell_of_block (k := 1) HR.out rfl).1; have zR1 := (cell_of_block (k := 1) HR.out rfl).2; have qR2 := (cell_of_block (k := 2) HR.out rfl).1; have zR2 := (cell_of_block (k := 2) HR.out rfl).2; have qR3 := (cell_of_block (k := 3) HR.out rfl).1; have zR3 := (cell_of_block (k := 3) HR.out rfl).2; have qR4 := (cell_of_block (k := 4) HR.out rfl).1; have zR4 := (cell_of_block (k := 4) HR.out rfl).2; have qR5 := (cell_of_block (k := 5) HR.out rfl).1; have zR5 := (cell_of_block (k := 5) HR.out rfl).2; have qR6 := (cell_of_block (k := 6) HR.out rfl).1; have zR6 := (cell_of_block (k := 6) HR.out rfl).2; have qR7 := (cell_of_block (k := 7) HR.out rfl).1; have zR7 := (cell_of_block (k := 7) HR.out rfl).2; have qR8 := (cell_of_block (k := 8) HR.out rfl).1; have zR8 := (cell_of_block (k := 8) HR.out rfl).2; have lt_R := blk_lt HR.out
        go_wp2_with fail
        have hpr : putH (abs L1) i (keyOf p) e.H p = (abs (L1.set i { k := keyOf p, H := rejF e.H, hb := e.hb, Ab := none, cb := 0, Ah := none, ch := 0 }), pk0, false, 70) := by unfold putH; rw [if_neg (by rw [HRJ.out]; simp), if_pos HCFB.out]; simp [abs, List.map_set]
        have HZ := stN_all [.int .i64 0, .int .i64 0, .int .i64 0, .int .i64 0, .int .i64 0, .bool false, .bool false, .int .i64 0, .string ⟨#[]⟩] HR.out rfl
        refine bodyPost_ret (v := .tuple #[.agg #[.int .i64 0, .int .i64 0, .int .i64 0, .int .i64 0, .int .i64 0, .bool false, .bool false, .int .i64 0, .string ⟨#[]⟩], .bool false, .int .i64 70]) (res_cell3 Try.results16 (by exact HZ) rfl Try.underlying30 rfl infoPkt) rfl ?_
        obtain ⟨hTz, hCz⟩ := put_end HT5.out HC5.out (Nat.le_succ _) NR'.out (stN_only (B := w.heap.size + 1) [.int .i64 0, .int .i64 0, .int .i64 0, .int .i64 0, .int .i64 0, .bool false, .bool false, .int .i64 0, .string ⟨#[]⟩] 0 (World.grownBy.refl w5 _))
        refine ⟨?_, es1, clk1, O1, oc1, _, hTz, ?_, HI5.out, hCz, HO5.out⟩
        · rw [HRES.out, hpr]; rfl
        · rw [HRES.out, hpr]
      | false =>
        have hS4 : ∀ q, e.own q → q < w4.heap.size := fun q r => HH4.out.lt r
        have HST := Lib.hid (store_any e.H p e.hb e.Ab e.cb e.Ah e.ch w4 e.own HH4.out HOK.out.2 (fun q r => r) hS4 HIE.out.len hpb.1 hpb.2 HIE.out.le HIE.out.cntB)
        have qP0 := (cell_of_block (k := 0) HP.out rfl).1; have zP0 := (cell_of_block (k := 0) HP.out rfl).2; have qP1 := (cell_of_block (k := 1) HP.out rfl).1; have zP1 := (cell_of_block (k := 1) HP.out rfl).2; have qP2 := (cell_of_block (k := 2) HP.out rfl).1; have zP2 := (cell_of_block (k := 2) HP.out rfl).2; have qP3 := (cell_of_block (k := 3) HP.out rfl).1; have zP3 := (cell_of_block (k := 3) HP.out rfl).2; have qP4 := (cell_of_block (k := 4) HP.out rfl).1; have zP4 := (cell_of_block (k := 4) HP.out rfl).2; have qP5 := (cell_of_block (k := 5) HP.out rfl).1; have zP5 := (cell_of_block (k := 5) HP.out rfl).2; have qP6 := (cell_of_block (k := 6) HP.out rfl).1; have zP6 := (cell_of_block (k := 6) HP.out rfl).2; have qP7 := (cell_of_block (k := 7) HP.out rfl).1; have zP7 := (cell_of_block (k := 7) HP.out rfl).2; have qP8 := (cell_of_block (k := 8) HP.out rfl).1; have zP8 := (cell_of_block (k := 8) HP.out rfl).2; have lt_P := blk_lt HP.out
        clear hS4
        go_wp2_with fail
        refine HST.out.mono ?_
        rintro x w5 ⟨rfl, Ab', cb', Ah', ch', hst⟩
        clear qP0 zP0 qP1 zP1 qP2 zP2 qP3 zP3 qP4 zP4 qP5 zP5 qP6 zP6 qP7 zP7 qP8 zP8 lt_P
        have hmem := List.mem_of_getElem? HI.out
        have hie := hinv_store HIE.out p hpb.1 hpb.2
        obtain ⟨hT5, ho5, hc5⟩ := HT.out.setHalf (e' := { k := keyOf p, H := storeF e.H p, hb := e.hb, Ab := Ab', cb := cb', Ah := Ah', ch := ch' }) HI.out HEK.out.symm rfl hst (fun q r => r)
        have hn5 : ∀ q, TOwn T m O1 (L1.set i { k := keyOf p, H := storeF e.H p, hb := e.hb, Ab := Ab', cb := cb', Ah := Ah', ch := ch' }) q → TOwn T m O1 L1 q ∨ w4.heap.size ≤ q := ho5
        have HP' := Lib.hid ((hst.chg.block _ (blk_lt HP.out) (fun r => NP.out (.inr (.inr (.inr ⟨e, hmem, r⟩))))).trans HP.out)
        have NP' := Lib.hid (fun r => (hn5 (w.heap.size) r).elim NP.out (fun r2 => by have := blk_lt HP.out; omega))
        have HR' := Lib.hid ((hst.chg.block _ (blk_lt HR.out) (fun r => NR.out (.inr (.inr (.inr ⟨e, hmem, r⟩))))).trans HR.out)
        have NR' := Lib.hid (fun r => (hn5 (w.heap.size + 1) r).elim NR.out (fun r2 => by have := blk_lt HR.out; omega))
        have HK' := Lib.hid ((hst.chg.block _ (blk_lt HK.out) (fun r => NK.out (.inr (.inr (.inr ⟨e, hmem, r⟩))))).trans HK.out)
        have NK' := Lib.hid (fun r => (hn5 (kb) r).elim NK.out (fun r2 => by have := blk_lt HK.out; omega))
        have HT5 := Lib.hid hT5
        have HC5 := Lib.hid (HC.out.trans hc5 (fun q r => HO.out q r))
        have hsz4 := HC.out.size
        have HO5 : Hid (∀ q, TOwn T m O1 (L1.set i { k := keyOf p, H := storeF e.H p, hb := e.hb, Ab := Ab', cb := cb', Ah := Ah', ch := ch' }) q → TOwn T m O L q ∨ w.heap.size ≤ q) := Lib.hid fun q r => (hn5 q r).elim (HO.out q) (fun r2 => .inr (by omega))
        have HI5 : Hid (∀ x ∈ L1.set i { k := keyOf p, H := storeF e.H p, hb := e.hb, Ab := Ab', cb := cb', Ah := Ah', ch := ch' }, HInv x.H) := Lib.hid fun x hx => by
          rcases List.mem_or_eq_of_mem_set hx with r | r
          · exact HI1.out x r
          · subst r; exact hie
        have HSX := Lib.hid hst.half
        have HIL := Lib.hid (List.getElem?_eq_some_iff.1 HI.out).1
        clear HP HR HK hT5 ho5 hc5 hn5 hst hie HT HC HO HI1 NP NR NK HH4 HOK HIE hsz4 HST hmem
        have HP := HP'; have HR := HR'; have HK := HK'; have NP := NP'; have NR := NR'; have NK := NK'; clear HP' HR' HK' NP' NR' NK'
        have HW := Lib.hid (whole_any (storeF e.H p) e.hb Ab' cb' Ah' ch' w5 HSX.out)
        obtain ⟨wf, hwf⟩ : ∃ b, wholeB (storeF e.H p) = b := ⟨_, rfl⟩
        rw [hwf] at HW
        have HWF := Lib.hid hwf; clear hwf
        go_wp2_with fail
        refine HW.out.mono ?_
        rintro x w6 ⟨rfl, hb⟩
        have HP' := Lib.hid (bblock hb HP.out); clear HP; have HP := HP'; clear HP'
        have HR' := Lib.hid (bblock hb HR.out); clear HR; have HR := HR'; clear HR'
        have HK' := Lib.hid (bblock hb HK.out); clear HK; have HK := HK'; clear HK'
        have HT6 := Lib.hid (HT5.out.below hb)
        have HC6 := Lib.hid (HC5.out.call hb)
        have HSX' := Lib.hid (HSX.out.below hb); clear HSX hb HT5 HC5; have HSX := HSX'; clear HSX'
        have hpr : putH (abs L1) i (keyOf p) e.H p = if wholeB (storeF e.H p) = true then ((abs L1).eraseIdx i, outF p (storeF e.H p), true, 0) else ((abs L1).set i (keyOf p, storeF e.H p), pk0, false, 0) := by unfold putH; rw [if_neg (by rw [HRJ.out]; simp), if_neg (by rw [HCFB.out]; simp)]
        rw [HWF.out] at hpr
        have HPR := Lib.hid hpr; clear hpr
        cases wf with
        | false =>
          have qR0 := (cell_of_block (k := 0) HR.out rfl).1; have zR0 := (cell_of_block (k := 0) HR.out rfl).2; have qR1 := (cell_of_block (k := 1) HR.out rfl).1; have zR1 := (cell_of_block (k := 1) HR.out rfl).2; have qR2 := (cell_of_block (k := 2) HR.out rfl).1; have zR2 := (cell_of_block (k := 2) HR.out rfl).2; have qR3 := (cell_of_block (k := 3) HR.out rfl).1; have zR3 := (cell_of_block (k := 3) HR.out rfl).2; have qR4 := (cell_of_block (k := 4) HR.out rfl).1; have zR4 := (cell_of_block (k := 4) HR.out rfl).2; have qR5 := (cell_of_block (k := 5) HR.out rfl).1; have zR5 := (cell_of_block (k := 5) HR.out rfl).2; have qR6 := (cell_of_block (k := 6) HR.out rfl).1; have zR6 := (cell_of_block (k := 6) HR.out rfl).2; have qR7 := (cell_of_block (k := 7) HR.out rfl).1; have zR7 := (cell_of_block (k := 7) HR.out rfl).2; have qR8 := (cell_of_block (k := 8) HR.out rfl).1; have zR8 := (cell_of_block (k := 8) HR.out rfl).2; have lt_R := blk_lt HR.out
          go_wp2_with fail
          have hpr : putH (abs L1) i (keyOf p) e.H p = (abs (L1.set i { k := keyOf p, H := storeF e.H p, hb := e.hb, Ab := Ab', cb := cb', Ah := Ah', ch := ch' }), pk0, false, 0) := by rw [HPR.out, if_neg (by simp)]; simp [abs, List.map_set]
          have HZ := stN_all [.int .i64 0, .int .i64 0, .int .i64 0, .int .i64 0, .int .i64 0, .bool false, .bool false, .int .i64 0, .string ⟨#[]⟩] HR.out rfl
          refine bodyPost_ret (v := .tuple #[.agg #[.int .i64 0, .int .i64 0, .int .i64 0, .int .i64 0, .int .i64 0, .bool false, .bool false, .int .i64 0, .string ⟨#[]⟩], .bool false, .int .i64 0]) (res_cell3 Try.results16 (by exact HZ) rfl Try.underlying30 rfl infoPkt) rfl ?_
          obtain ⟨hTz, hCz⟩ := put_end HT6.out HC6.out (Nat.le_succ _) NR.out (stN_only (B := w.heap.size + 1) [.int .i64 0, .int .i64 0, .int .i64 0, .int .i64 0, .int .i64 0, .bool false, .bool false, .int .i64 0, .string ⟨#[]⟩] 0 (World.grownBy.refl w6 _))
          refine ⟨?_, es1, clk1, O1, oc1, _, hTz, ?_, HI5.out, hCz, HO5.out⟩
          · rw [HRES.out, hpr]; rfl
          · rw [HRES.out, hpr]
        | true =>
          have hsi : (L1.set i { k := keyOf p, H := storeF e.H p, hb := e.hb, Ab := Ab', cb := cb', Ah := Ah', ch := ch' })[i]? = some { k := keyOf p, H := storeF e.H p, hb := e.hb, Ab := Ab', cb := cb', Ah := Ah', ch := ch' } := by rw [List.getElem?_set]; simp [HIL.out]
          have HRM := Lib.hid fun hl => remove_any T m es1 clk1 O1 oc1 (L1.set i { k := keyOf p, H := storeF e.H p, hb := e.hb, Ab := Ab', cb := cb', Ah := Ah', ch := ch' }) i { k := keyOf p, H := storeF e.H p, hb := e.hb, Ab := Ab', cb := cb', Ah := Ah', ch := ch' } hsi w6 HT6.out hl
          unfold keyOf at HRM
          have qk0 := (cell_of_block (k := 0) HK.out rfl).1; have qk1 := (cell_of_block (k := 1) HK.out rfl).1; have qk2 := (cell_of_block (k := 2) HK.out rfl).1; have qk3 := (cell_of_block (k := 3) HK.out rfl).1
          go_wp2_with fail
          refine (HRM.out (by rw [List.length_set]; have := HLX.out; omega)).mono ?_
          rintro x w7 ⟨rfl, es7, hT7, hc7⟩
          clear qk0 qk1 qk2 qk3
          have hme : { k := keyOf p, H := storeF e.H p, hb := e.hb, Ab := Ab', cb := cb', Ah := Ah', ch := ch' } ∈ L1.set i { k := keyOf p, H := storeF e.H p, hb := e.hb, Ab := Ab', cb := cb', Ah := Ah', ch := ch' } := List.mem_of_getElem? hsi
          have hs3 : ∀ q, S3 T m O1 q → TOwn T m O1 (L1.set i { k := keyOf p, H := storeF e.H p, hb := e.hb, Ab := Ab', cb := cb', Ah := Ah', ch := ch' }) q := fun q r => by
            rcases r with r | r | r
            · exact .inl r
            · exact .inr (.inl r)
            · exact .inr (.inr (.inl r))
          have HP' := Lib.hid ((hc7.block _ (blk_lt HP.out) (fun r => NP.out (hs3 _ r))).trans HP.out)
          have HR' := Lib.hid ((hc7.block _ (blk_lt HR.out) (fun r => NR.out (hs3 _ r))).trans HR.out)
          have HS7 := Lib.hid (HSX.out.kept (W' := w7) (fun q r => hc7.block q (HSX.out.lt r) (fun r2 => by
            have := HT6.out.eo _ hme q r
            rcases r2 with r2 | r2 | ⟨a, r2, r3⟩
            · exact this.1 r2
            · exact this.2.1 r2
            · exact this.2.2 a r2 r3)))
          have hsub : ∀ x, x ∈ (L1.set i { k := keyOf p, H := storeF e.H p, hb := e.hb, Ab := Ab', cb := cb', Ah := Ah', ch := ch' }).eraseIdx i → x ∈ L1.set i { k := keyOf p, H := storeF e.H p, hb := e.hb, Ab := Ab', cb := cb', Ah := Ah', ch := ch' } := fun x hx => (List.eraseIdx_sublist _ _).subset hx
          have HI7 : Hid (∀ x ∈ (L1.set i { k := keyOf p, H := storeF e.H p, hb := e.hb, Ab := Ab', cb := cb', Ah := Ah', ch := ch' }).eraseIdx i, HInv x.H) := Lib.hid fun x hx => HI5.out x (hsub x hx)
          have hso : ∀ q, TOwn T m O1 ((L1.set i { k := keyOf p, H := storeF e.H p, hb := e.hb, Ab := Ab', cb := cb', Ah := Ah', ch := ch' }).eraseIdx i) q → TOwn T m O1 (L1.set i { k := keyOf p, H := storeF e.H p, hb := e.hb, Ab := Ab', cb := cb', Ah := Ah', ch := ch' }) q := fun q r => by
            rcases r with r | r | r | ⟨x, hx, r⟩
            · exact .inl r
            · exact .inr (.inl r)
            · exact .inr (.inr (.inl r))
            · exact .inr (.inr (.inr ⟨x, hsub x hx, r⟩))
          have HO7 : Hid (∀ q, TOwn T m O1 ((L1.set i { k := keyOf p, H := storeF e.H p, hb := e.hb, Ab := Ab', cb := cb', Ah := Ah', ch := ch' }).eraseIdx i) q → TOwn T m O L q ∨ w.heap.size ≤ q) := Lib.hid fun q r => HO5.out q (hso q r)
          have NR' := Lib.hid (fun r => NR.out (hso _ r))
          have HC7 := Lib.hid (HC6.out.trans hc7 (fun q r => HO5.out q (hs3 q r)))
          have HT7 := Lib.hid hT7
          clear HP HR HK hs3 hme hsi HRM hT7 hc7 hsub hso HSX HT6 HC6 NP NR NK HO5 HI5 HW
          have HP := HP'; have HR := HR'; clear HP' HR'
          have hcv := conv_sl (W := w7.drew) (A := Ab') (c := cb') (l := (storeF e.H p).by_) (by exact HS7.out.2.1) rfl
          have Hh := Lib.hid HS7.out.1
          have qh2 := (cell_of_block (k := 2) Hh.out rfl).1; have qh11 := (cell_of_block (k := 11) Hh.out rfl).1
          have qp0 := (cell_of_block (k := 0) HP.out rfl).1; have qp1 := (cell_of_block (k := 1) HP.out rfl).1; have qp2 := (cell_of_block (k := 2) HP.out rfl).1; have qp4 := (cell_of_block (k := 4) HP.out rfl).1
          have qR0 := (cell_of_block (k := 0) HR.out rfl).1; have zR0 := (cell_of_block (k := 0) HR.out rfl).2; have qR1 := (cell_of_block (k := 1) HR.out rfl).1; have zR1 := (cell_of_block (k := 1) HR.out rfl).2; have qR2 := (cell_of_block (k := 2) HR.out rfl).1; have zR2 := (cell_of_block (k := 2) HR.out rfl).2; have qR3 := (cell_of_block (k := 3) HR.out rfl).1; have zR3 := (cell_of_block (k := 3) HR.out rfl).2; have qR4 := (cell_of_block (k := 4) HR.out rfl).1; have zR4 := (cell_of_block (k := 4) HR.out rfl).2; have qR5 := (cell_of_block (k := 5) HR.out rfl).1; have zR5 := (cell_of_block (k := 5) HR.out rfl).2; have qR6 := (cell_of_block (k := 6) HR.out rfl).1; have zR6 := (cell_of_block (k := 6) HR.out rfl).2; have qR7 := (cell_of_block (k := 7) HR.out rfl).1; have zR7 := (cell_of_block (k := 7) HR.out rfl).2; have qR8 := (cell_of_block (k := 8) HR.out rfl).1; have zR8 := (cell_of_block (k := 8) HR.out rfl).2; have lt_R := blk_lt HR.out
          have ltp := blk_lt HP.out
          go_upto_region 18 with fail
          go_region
          go_wp2_with fail
          have hpr : putH (abs L1) i (keyOf p) e.H p = (abs ((L1.set i { k := keyOf p, H := storeF e.H p, hb := e.hb, Ab := Ab', cb := cb', Ah := Ah', ch := ch' }).eraseIdx i), outF p (storeF e.H p), true, 0) := by rw [HPR.out, if_pos trivial]; simp only [abs, map_erase, List.map_set]; rw [erase_set]
          have HZ := stN_all [.int .i64 p.f, .int .i64 p.t, .int .i64 p.pr, .int .i64 (storeF e.H p).first.ttl, .int .i64 p.id, .bool false, .bool false, .int .i64 0, .string ⟨(storeF e.H p).by_.toArray⟩] HR.out rfl
          have HZ2 := drew_heap HZ
          refine bodyPost_ret (v := .tuple #[.agg #[.int .i64 p.f, .int .i64 p.t, .int .i64 p.pr, .int .i64 (storeF e.H p).first.ttl, .int .i64 p.id, .bool false, .bool false, .int .i64 0, .string ⟨(storeF e.H p).by_.toArray⟩], .bool true, .int .i64 0]) (res_cell3 Try.results16 (by exact HZ2) rfl Try.underlying30 rfl infoPkt) rfl ?_
          obtain ⟨hTz, hCz⟩ := put_end HT7.out HC7.out (Nat.le_succ _) NR'.out (only_drew (stN_only (B := w.heap.size + 1) [.int .i64 p.f, .int .i64 p.t, .int .i64 p.pr, .int .i64 (storeF e.H p).first.ttl, .int .i64 p.id, .bool false, .bool false, .int .i64 0, .string ⟨(storeF e.H p).by_.toArray⟩] 0 (World.grownBy.refl w7 _)))
          refine ⟨?_, es7, clk1, O1, oc1, _, hTz, ?_, HI7.out, hCz, HO7.out⟩
          · rw [HRES.out, hpr]; rfl
          · rw [HRES.out, hpr]; rfl
end Go.Proofs.Ytmeldgnjgogacaa.Re
