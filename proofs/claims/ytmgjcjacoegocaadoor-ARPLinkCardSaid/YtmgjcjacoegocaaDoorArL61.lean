/-
  The walk of the law ARPLink: several tables on one link.
-/
import Derived.Test.YtmgjcjacoegocaaDoorArLkM
import Derived.Test.YtmgjcjacoegocaaDoorArSan
import Derived.Test.YtmgjcjacoegocaaDoorArShort
import Derived.Test.YtmgjcjacoegocaaDoorArArgM
import Derived.IntWalk
import Derived.Deep.RegionHeld3
import Derived.Deep.RegionWith
import Derived.Deep.QuietTactic
import Derived.BigQuiet
import Derived.Deep.DeepCutAuto
import Derived.Deep.CutRange
import Derived.Outline
namespace Go.Proofs.YtmgjcjacoegocaaDoor.Ar
set_option maxRecDepth 100000
open Go.RowKit Go.Proofs.YtmgjcjacoegocaaDoor.Wire

theorem infoPtr : (Tryd.prog.info? 43).map (fun i => (i.zero, i.size, i.bytes)) = some (some (.pointer none), 1, 8) := by kernel_rfl
theorem ptr_one (l : List Nat) : ∀ u ∈ l.flatMap ptrC, u.oneCell' = true := fun u hu => by obtain ⟨p, -, hp⟩ := List.mem_flatMap.1 hu; simp [ptrC] at hp; rw [hp]; rfl
/-- the tables as they are made -/
structure L1 (w : World) (i : Nat) (At : Option Addr) (ct : Nat) (L : List Tb) (W : World) : Prop where
  many : ∃ K, Many w L K W ∧ (∀ q, BK At q → K q)
  row : SRow 43 1 ptrC W w.heap.size At ct (L.map (·.T))
  len : L.length = i
  new_ : ∀ (k : Nat) (t : Tb), L[k]? = some t → t.c = ⟨10 + (k : Int), 1 + (k : Int), false, 0⟩ ∧ t.A = []
theorem tot_zero : ∀ {L : List Tb}, (∀ t ∈ L, t.A = []) → tot L = 0
  | [], _ => rfl
  | x :: L, h => by
    have h1 := tot_zero (L := L) (fun t ht => h t (List.mem_cons_of_mem _ ht))
    have h2 := h x (List.mem_cons_self ..)
    unfold tot at *
    rw [List.map_cons, List.foldr_cons, h1, h2]; rfl
theorem L1.start {w W : World} {n : Nat} {At : Option Addr} {ct : Nat} {L : List Tb} (h : L1 w n At ct L W) (hn : 2 ≤ n ∧ n ≤ 4) : LS w n At ct (L.map (·.T)) 0 [] none 0 L 0 0 W := by
  obtain ⟨K, hM, hK⟩ := h.many
  refine ⟨(Sys.start hn h.len h.new_).congr (fun _ _ => rfl) (fun _ _ => by omega), ⟨by omega, ?_, by omega⟩, by simp, NS.start hM (fun q hq => ?_), h.row, rfl, SRow.nil _ _ _ _ _⟩
  · rw [tot_zero (fun t ht => by obtain ⟨k, hk⟩ := List.getElem?_of_mem ht; exact (h.new_ k t hk).2)]; omega
  · rcases hq with hq | hq
    · exact ⟨hK q hq, (h.row.bk' hq).2⟩
    · exact (bk_none q hq).elim
theorem L1.push {w W : World} {i : Nat} {At : Option Addr} {ct : Nat} {L : List Tb} (h : L1 w i At ct L W) {W2 : World} {A' : Option Addr} {c' : Nat}
    (hW : W2 = ((W.alloc (.cells #[.int .i64 (10 + (i : Int)), .int .i64 (1 + (i : Int)), .map none, .bool false, .int .i64 0] 102)).alloc (.cells #[.pointer (some ⟨W.heap.size, 0, none⟩)] 43)))
    {W3 : World} (hown : SRow 43 1 ptrC W3 w.heap.size A' c' (L.map (·.T) ++ [W.heap.size])) (hg : W2.grownBy W3 (Value.ownBlock (.slice At i ct))) (hat : ∀ q, BK A' q → (BK At q ∨ W2.heap.size ≤ q)) :
    L1 w (i + 1) A' c' (L ++ [⟨W.heap.size, ⟨10 + (i : Int), 1 + (i : Int), false, 0⟩, []⟩]) W3 := by
  obtain ⟨K, hM, hK⟩ := h.many
  have h1 := (hM.push (10 + (i : Int)) (1 + (i : Int))).below ((Below.refl _ _).alloc (Nat.le_refl _) (.cells #[.pointer (some ⟨W.heap.size, 0, none⟩)] 43))
  rw [← hW] at h1
  refine ⟨⟨_, (h1.more (K' := fun q => (K q ∧ q < W.heap.size) ∨ W2.heap.size ≤ q) (fun q r => r)).grown hg (fun k e => ⟨.inl ⟨hK k (ob_bk e), (h.row.bk' (ob_bk e)).2⟩, (h.row.bk' (ob_bk e)).1⟩), fun q hq => ?_⟩, by rw [List.map_append]; exact hown, by rw [List.length_append, h.len]; rfl, fun k t hk => ?_⟩
  · rcases hat q hq with r | r
    · exact .inl ⟨hK q r, (h.row.bk' r).2⟩
    · exact .inr r
  · rw [List.getElem?_append] at hk
    split at hk
    · exact h.new_ k t hk
    · rename_i hlt
      have hlen := h.len
      have e0 : k - L.length = 0 := by
        have := (List.getElem?_eq_some_iff.1 hk).1
        simp at this; omega
      rw [e0] at hk
      cases hk
      have : k = i := by omega
      subst this
      exact ⟨rfl, rfl⟩
set_option maxHeartbeats 40000000 in
theorem link_law (many : Int) (A : Option Addr) (nt ca : Nat) (tl : List Cl) (a0 : Addr) (w : World) (hg : Lk.Gl w a0) (hm : In64 many) (hA : ArgC w A nt tl) :
    Calls Tryd.prog 4 #[.int .i64 many, .slice A nt ca] w fun e w' => e = .returned (.bool true) ∧ Below w.heap.size w w' := by
  have HG := Lib.hid hg; have HA := Lib.hid hA
  have hnt := hA.size
  clear hg hA
  have hp := pick_lt many 3 (by omega)
  have HP := Lib.hid fun W => pick_any many 3 W hm (by omega) (by omega)
  generalize pick many 3 = pm at *
  obtain ⟨n, hn⟩ : ∃ n : Nat, 2 + pm = (n : Int) := ⟨(2 + pm).toNat, by omega⟩
  have hn2 : 2 ≤ n ∧ n ≤ 4 := by omega
  have un : IntKind.i64.wrap (2 + pm) = 2 + pm := IntWalk.i64_in _ (by omega)
  obtain ⟨hp0, hp1⟩ := hp
  obtain ⟨iP, hi0, hz0, hz1, hz2⟩ := info_parts infoPtr
  have HI0 := Lib.hid hi0; have HZ0 := Lib.hid hz0; have HZ1 := Lib.hid hz1; have HZ2 := Lib.hid hz2
  clear hi0 hz0 hz1 hz2
  obtain ⟨iS, hi0, hz0, hz1, hz2⟩ := info_parts infoStr
  have HJ0 := Lib.hid hi0; have HY0 := Lib.hid hz0; have HY1 := Lib.hid hz1; have HY2 := Lib.hid hz2
  clear hi0 hz0 hz1 hz2 hm
  go_enter Tryd.func4, Tryd.ntmps4
  go_wp2_with fail
  refine (sanity_any _).mono ?_
  rintro x w1 ⟨rfl, hb1⟩
  go_wp2_with fail
  refine (HP.out _).mono ?_
  rintro x w' ⟨rfl, rfl⟩
  have hL0 : Hid (L1 w 0 none 0 [] w1) := Lib.hid ⟨⟨fun _ => False, Many.nil hb1 _, fun q hq => (bk_none q hq).elim⟩, SRow.nil _ _ _ _ _, rfl, fun k t hk => by simp at hk⟩
  clear HP hb1
  go_wp2_with fail
  try rw [hn]
  clear hn un hp0 hp1
  go_loopw [7, 8] (fun sv iv wr => ∃ (i : Nat) (At : Option Addr) (ct : Nat) (Lt : List Tb), i ≤ n ∧ iv = .int .i64 (i : Int) ∧ sv = .slice At i ct ∧ L1 w i At ct Lt wr) (fun _ iv _ => n - (intOf iv).toNat)
  case atStart => exact ⟨0, none, 0, [], by omega, rfl, rfl, hL0.out⟩
  case round =>
    clear hL0
    obtain ⟨i, At, ct, Lt, hi, rfl, rfl, hL⟩ := hrel
    obtain ⟨wo, rfl⟩ : ∃ wo : World, wo = wr := ⟨_, rfl⟩
    have HL := Lib.hid hL; clear hL
    by_cases hlt : i < n
    · have hil : decide ((i : Int) < (n : Int)) = true := by simp; omega
      have e1 : IntKind.i64.wrap (10 + (i : Int)) = 10 + (i : Int) := IntWalk.i64_in _ (by omega)
      have e2 : IntKind.i64.wrap (1 + (i : Int)) = 1 + (i : Int) := IntWalk.i64_in _ (by omega)
      have e2b : IntKind.i64.wrap ((i : Int) + 1) = (i : Int) + 1 := IntWalk.i64_in _ (by omega)
      go_wp2_with fail
      refine (new_any (10 + (i : Int)) (1 + (i : Int)) _).mono ?_
      rintro x w2 (⟨-, -, rfl, rfl⟩ | ⟨hb, -, -⟩)
      case inr =>
        exfalso
        rcases hb with hb | hb
        · unfold uniB at hb; have := of_decide_eq_false hb; omega
        · unfold umacB at hb; have := of_decide_eq_false hb; omega
      have hb2 : Below wo.heap.size wo ((wo.alloc (.cells #[.int .i64 (10 + (i : Int)), .int .i64 (1 + (i : Int)), .map none, .bool false, .int .i64 0] 102)).alloc (.cells #[.pointer (some ⟨wo.heap.size, 0, none⟩)] 43)) := ((Below.refl _ _).alloc (Nat.le_refl _) _).alloc (by simp) _
      have hz2 := HL.out.row.below hb2
      have HL2 := Lib.hid hz2; have hsz := (let ⟨K, hM, _⟩ := HL.out.many; hM.bel.size); clear hz2
      go_wp2_with (at_builtin; (refine Rw.list_app rfl (.tmp 57) (.tmp 59) 42 rfl HL2.out (fun _ => rfl) iP _ 8 Tryd.underlying42 HI0.out HZ0.out HZ1.out HZ2.out rfl (by decide) i (by rw [List.length_map, HL.out.len]) _ _ _ [wo.heap.size] rfl rfl rfl (fun _ => ⟨_, rfl, World.news_of_block (alloc_new' (wo.alloc (.cells #[.int .i64 (10 + (i : Int)), .int .i64 (1 + (i : Int)), .map none, .bool false, .int .i64 0] 102)) (.cells #[.pointer (some ⟨wo.heap.size, 0, none⟩)] 43) (wo.heap.size + 1) (by simp))⟩) (ptr_one _) (by unfold maxLen; omega) (by omega) (by simp; omega) ?_); intro A2 c2 w7 hown hgrow hat)
      have HN := Lib.hid (HL.out.push rfl hown hgrow hat)
      clear hown hgrow hat HL HL2
      go_roundw
      case rel => exact ⟨i + 1, A2, c2, _, by omega, by go_num, rfl, HN.out⟩
      case measure => simp [intOf]; omega
    · obtain rfl : i = n := by omega
      have hil : decide ((i : Int) < (i : Int)) = false := by simp
      obtain ⟨n, rfl⟩ : ∃ n, n = i := ⟨_, rfl⟩
      have hS0 := HL.out.start hn2
      obtain ⟨Ts, hTs⟩ : ∃ Ts, Lt.map (·.T) = Ts := ⟨_, rfl⟩
      have hTl : Ts.length = n := by rw [← hTs, List.length_map, HL.out.len]
      rw [hTs] at hS0
      have HS0 := Lib.hid hS0; clear hS0 HL hTs hi
      have HTl := Lib.hid hTl; clear hTl
      go_wp2_with fail
      clear hil
      go_loopw [11, 12, 13, 14] (fun s11 s12 s13 s14 wr => ∃ (now : Nat) (Fr : List Ms) (Fa : Option Addr) (Fc : Nat) (Lx : List Tb) (ot sn : Int), now ≤ 60 ∧ s14 = .int .i64 (now : Int) ∧ s11 = .slice Fa Fr.length Fc ∧ s12 = .int .i64 ot ∧ s13 = .int .i64 sn ∧ LS w n At ct Ts now Fr Fa Fc Lx ot sn wr) (fun _ _ _ s14 _ => 60 - (intOf s14).toNat)
      case atStart => exact ⟨0, [], none, 0, _, 0, 0, by omega, rfl, rfl, rfl, rfl, HS0.out⟩
      case round =>
        clear HS0
        obtain ⟨now, Fr, Fa, Fc, Lx, ot, sn, hnow, rfl, rfl, rfl, rfl, hS⟩ := hrel
        obtain ⟨wp, rfl⟩ : ∃ wp : World, wp = wr := ⟨_, rfl⟩
        have HS := Lib.hid hS; clear hS
        by_cases hn60 : now < 60
        · as_aux_lemma =>
          have hil : decide ((now : Int) < 60) = true := by simp; omega
          have hsn : sn ≤ now := HS.out.cnt.2.2
          have hfl : Fr.length ≤ 5 * now := HS.out.len
          have HL3 : Hid (L3 w wp n Ts (fun q => BK At q ∨ BK Fa q) now Fr sn 0 [] none 0 Lx ot wp) := Lib.hid ⟨HS.out.sys.congr (fun _ _ => rfl) (fun _ _ => rfl), ⟨HS.out.cnt.1, HS.out.cnt.2.1⟩, Nat.le_refl _, HS.out.ns, HS.out.tsL⟩
          have HTr := Lib.hid HS.out.ts; have HFr := Lib.hid HS.out.fr
          have hwp := HS.out.ns.bel
          have HGp := Lib.hid (HG.out.below hwp)
          have HAp := Lib.hid (HA.out.below hwp)
          clear HS hwp
          obtain ⟨F, hF⟩ : ∃ F, Fr.length = F := ⟨_, rfl⟩
          have HF := Lib.hid hF
          rw [hF] at hfl ⊢
          clear hF
          go_wp2_with fail
          clear hil
          go_loopw [12, 15, 16] (fun s12 s15 s16 wr => ∃ (i : Nat) (N : List Ms) (Na : Option Addr) (Nc : Nat) (Ly : List Tb) (oy : Int), i ≤ F ∧ s16 = .int .i64 (i : Int) ∧ s15 = .slice Na N.length Nc ∧ s12 = .int .i64 oy ∧ L3 w wp n Ts (fun q => BK At q ∨ BK Fa q) now Fr sn i N Na Nc Ly oy wr) (fun _ _ s16 _ => F - (intOf s16).toNat)
          case atStart => exact ⟨0, [], none, 0, _, _, by omega, rfl, rfl, rfl, HL3.out⟩
          case round =>
            clear HL3
            obtain ⟨i, N, Na, Nc, Ly, oy, hi, rfl, rfl, rfl, hL⟩ := hrel
            obtain ⟨wo, rfl⟩ : ∃ wo : World, wo = wr := ⟨_, rfl⟩
            have HL := Lib.hid hL; clear hL
            by_cases hlt : i < F
            · as_aux_lemma =>
              have hil : decide ((i : Int) < (F : Int)) = true := by simp; omega
              have hio : i < Fr.length := by rw [HF.out]; exact hlt
              obtain ⟨m, hm⟩ : ∃ m, Fr[i]? = some m := ⟨Fr[i]'hio, List.getElem?_eq_getElem hio⟩
              clear hio
              have hmo : MsOk n m := HL.out.sys.u 0 (by omega) m (by
                obtain ⟨hl, rfl⟩ := List.getElem?_eq_some_iff.1 hm
                show _ ∈ Fr.drop i
                rw [List.drop_eq_getElem_cons hl]; exact List.mem_cons_self ..)
              have hok := msOk_ok hn2.2 hmo
              have hm10 : 10 ≤ m.2.t := by obtain ⟨x1, x2, -, -, ⟨-, rfl⟩ | ⟨-, rfl⟩⟩ := hmo <;> (show (10 : Int) ≤ 10 + _; omega)
              have HFo := Lib.hid (ms_fr hn2.2 hmo)
              obtain ⟨gf, rfl, -⟩ := HFr.out.addr (by rw [List.length_map, HF.out]; omega)
              have hrf := HL.out.ns.rows HFr.out (fun q hq => .inr hq)
              have rf0 : wo.cell? ⟨gf, i, none⟩ = some (.string (frB m)) := by have := hrf.cell (fun _ => rfl) rfl (i := i) (x := frB m) (by rw [List.getElem?_map, hm]; rfl) (r := 0) (by omega) rfl; simpa using this
              have hgf := (hrf.bk' ⟨_, rfl, rfl⟩).2
              have hi0 : (0 : Int) ≤ (i : Int) := by omega
              have hi1 : (i : Int) < (F : Int) := by omega
              have hii : IntKind.i64.wrap ((i : Int) + 1) = (i : Int) + 1 := IntWalk.i64_in _ (by omega)
              have HDL : Hid (∀ W, Lk.Gl W a0 → Calls Tryd.prog 17 #[.string (frB m)] W fun e w' => e = .returned (.tuple #[.agg #[.int .i64 (dstM m.2), .int .i64 (1 + (m.1 : Int)), .int .i64 1, .string ⟨(encM m.2).toArray⟩], .int .i64 0]) ∧ Below W.heap.size W w') := Lib.hid fun W hg => Lk.decode_fr (dstM m.2) (1 + (m.1 : Int)) 1 (encM m.2) W a0 hg HFo.out
              have HDA : Hid (∀ W, Calls Tryd.prog 18 #[.string ⟨(encM m.2).toArray⟩] W fun e w' => e = .returned (.tuple #[.agg #[.int .i64 m.2.op, .int .i64 m.2.f, .int .i64 m.2.fm, .int .i64 m.2.t, .int .i64 m.2.tm], .int .i64 0]) ∧ Below W.heap.size W w') := Lib.hid fun W => by have := decode_13 ⟨(encM m.2).toArray⟩ W (by show (encM m.2).length = 13; exact encM_len _); rwa [dec_enc m.2 hok.1] at this
              have HAd : Hid (∀ (k : Nat) W, Calls Tryd.prog 19 #[.agg #[.int .i64 (dstM m.2), .int .i64 (1 + (m.1 : Int)), .int .i64 1, .string ⟨(encM m.2).toArray⟩], .int .i64 (1 + (k : Int))] W fun e w' => e = .returned (.bool (hears m k)) ∧ Below W.heap.size W w') := Lib.hid fun k W => Lk.addressed_any (dstM m.2) (1 + (m.1 : Int)) 1 (1 + (k : Int)) ⟨(encM m.2).toArray⟩ W
              have HM := Lib.hid hm; have HMo := Lib.hid hmo; clear hm hmo hok hrf HFo
              generalize frB m = FB at rf0 HDL
              generalize dstM m.2 = ds at HDL HAd
              generalize 1 + (m.1 : Int) = sk at HDL HAd
              generalize encM m.2 = EA at HDL HDA HAd
              go_wp2_with fail
              clear rf0 hgf hil
              refine (HDL.out _ (HG.out.below HL.out.ns.bel)).mono ?_
              rintro e v1 ⟨rfl, hb1⟩
              have NA := Lib.hid (HL.out.ns.below hb1)
              have NB := Lib.hid (NA.out.add (.cells #[.int .i64 ds, .int .i64 sk, .int .i64 1, .string ⟨EA.toArray⟩] 48))
              have NC := Lib.hid (NA.out.below ((Below.refl v1.heap.size v1).alloc (Nat.le_refl _) (.cells #[.int .i64 ds, .int .i64 sk, .int .i64 1, .string ⟨EA.toArray⟩] 48)))
              have Hf := Lib.hid (alloc_new v1 (.cells #[.int .i64 ds, .int .i64 sk, .int .i64 1, .string ⟨EA.toArray⟩] 48))
              have qf3 := (cell_of_block (k := 3) Hf.out rfl).1; have ltf := blk_lt Hf.out
              clear NA hb1
              go_wp2_with fail
              clear qf3 ltf
              refine (HDA.out _).mono ?_
              rintro e v2 ⟨rfl, hb2⟩
              have ND := Lib.hid ((NB.out.below hb2).add (.cells #[.int .i64 m.2.op, .int .i64 m.2.f, .int .i64 m.2.fm, .int .i64 m.2.t, .int .i64 m.2.tm] 52))
              have NE := Lib.hid ((NC.out.below hb2).below ((Below.refl v2.heap.size v2).alloc (Nat.le_refl _) (.cells #[.int .i64 m.2.op, .int .i64 m.2.f, .int .i64 m.2.fm, .int .i64 m.2.t, .int .i64 m.2.tm] 52)))
              have Hf2 := Lib.hid (block_alloc (bblock hb2 Hf.out) (.cells #[.int .i64 m.2.op, .int .i64 m.2.f, .int .i64 m.2.fm, .int .i64 m.2.t, .int .i64 m.2.tm] 52))
              have Hg := Lib.hid (alloc_new v2 (.cells #[.int .i64 m.2.op, .int .i64 m.2.f, .int .i64 m.2.fm, .int .i64 m.2.t, .int .i64 m.2.tm] 52))
              have hsz : v1.heap.size < v2.heap.size := by have := blk_lt (bblock hb2 Hf.out); omega
              clear NB NC Hf hb2 HDL HDA
              have HL4 := Lib.hid (HL.out.into ND.out m hm10)
              have HTr4 := Lib.hid (NE.out.rows HTr.out (fun q hq => .inl hq))
              have hTz := NE.out.size
              have HStd := Lib.hid NE.out.std
              clear ND NE HL
              go_wp2_with fail
              generalize v2.alloc (.cells #[.int .i64 m.2.op, .int .i64 m.2.f, .int .i64 m.2.fm, .int .i64 m.2.t, .int .i64 m.2.tm] 52) = vr at *
              generalize v1.heap.size = bf at *
              generalize v2.heap.size = bm at *
              go_loopw [12, 15, 21] (fun s12 s15 s21 wr => ∃ (k : Nat) (N : List Ms) (Na : Option Addr) (Nc : Nat) (Lz : List Tb) (oz : Int), k ≤ n ∧ s21 = .int .i64 (k : Int) ∧ s15 = .slice Na N.length Nc ∧ s12 = .int .i64 oz ∧ L4 w vr n Ts (fun q => ((BK At q ∨ BK (some ⟨gf, 0, none⟩) q) ∨ q = bf) ∨ q = bm) now Fr sn i m k N Na Nc Lz oz wr) (fun _ _ s21 _ => n - (intOf s21).toNat)
              case atStart => exact ⟨0, N, Na, Nc, Ly, oy, by omega, rfl, rfl, rfl, HL4.out⟩
              case round =>
                clear HL4
                obtain ⟨k, N, Na, Nc, Lz, oz, hk, rfl, rfl, rfl, hL⟩ := hrel
                obtain ⟨wq, rfl⟩ : ∃ wq : World, wq = wr := ⟨_, rfl⟩
                have HL := Lib.hid hL; clear hL
                by_cases hlk : k < n
                · as_aux_lemma =>
                  have hkl : decide ((k : Int) < (n : Int)) = true := by simp; omega
                  have hbf := HL.out.ns.blk (.inl (.inr rfl)) Hf2.out
                  have qf0 := (cell_of_block (k := 0) hbf rfl).1; have qf1 := (cell_of_block (k := 1) hbf rfl).1; have qf2 := (cell_of_block (k := 2) hbf rfl).1; have qf3 := (cell_of_block (k := 3) hbf rfl).1
                  have ltf := blk_lt hbf
                  have hk1 : IntKind.i64.wrap ((k : Int) + 1) = (k : Int) + 1 := IntWalk.i64_in _ (by omega)
                  have hk2 : IntKind.i64.wrap (1 + (k : Int)) = 1 + (k : Int) := IntWalk.i64_in _ (by omega)
                  have hkk0 : (0 : Int) ≤ (k : Int) := by omega
                  have hkk1 : (k : Int) < (n : Int) := by omega
                  clear hbf
                  cases hh : hears m k with
                  | false =>
                    have HAk := Lib.hid (HAd.out k); rw [hh] at HAk
                    go_wp2_with fail
                    clear qf0 qf1 qf2 qf3 ltf
                    refine (HAk.out _).mono ?_
                    rintro e u1 ⟨rfl, hb⟩
                    have HLn := Lib.hid (HL.out.deaf HM.out hlk hh hb)
                    clear HL hb HAk
                    go_wp2_with fail
                    exact ⟨⟨k + 1, N, Na, Nc, Lz, oz, by omega, by go_num, rfl, rfl, HLn.out⟩, by simp [intOf]; omega⟩
                  | true =>
                    have HAk := Lib.hid (HAd.out k); rw [hh] at HAk
                    go_wp2_with fail
                    clear qf0 qf1 qf2 qf3 ltf
                    refine (HAk.out _).mono ?_
                    rintro e u1 ⟨rfl, hb⟩
                    have HNu := Lib.hid (HL.out.ns.below hb)
                    clear hb HAk
                    obtain ⟨t, ht⟩ : ∃ t, Lz[k]? = some t := ⟨_, List.getElem?_eq_getElem (show k < Lz.length by rw [HL.out.sys.len]; exact hlk)⟩
                    have hTk : Ts[k]? = some t.T := by rw [← HL.out.tsL, List.getElem?_map, ht]; rfl
                    obtain ⟨gt, rfl, -⟩ := HTr4.out.addr (by rw [HTl.out]; omega)
                    have htr := HNu.out.rows HTr4.out (fun q hq => .inl (.inl (.inl hq)))
                    have qt0 : u1.cell? ⟨gt, k, none⟩ = some (.pointer (some ⟨t.T, 0, none⟩)) := by have := htr.cell (fun _ => rfl) rfl hTk (r := 0) (by omega) rfl; simpa using this
                    have ltt := (htr.bk' ⟨_, rfl, rfl⟩).2
                    have hbm := HNu.out.blk (.inr rfl) Hg.out
                    have qm0 := (cell_of_block (k := 0) hbm rfl).1; have qm1 := (cell_of_block (k := 1) hbm rfl).1; have qm2 := (cell_of_block (k := 2) hbm rfl).1; have qm3 := (cell_of_block (k := 3) hbm rfl).1; have qm4 := (cell_of_block (k := 4) hbm rfl).1
                    have ltm := blk_lt hbm
                    obtain ⟨htc, -, -, -⟩ := HL.out.sys.table ht
                    obtain ⟨c', A', out, held, he⟩ : ∃ c' A' out held, recvA t.c t.A (now : Int) m.2 = (c', A', out, held) := ⟨_, _, _, _, rfl⟩
                    obtain ⟨hmo, hol, hhd, hhs, hnext⟩ := HL.out.hear HM.out hlk hh ht he
                    have HRv := Lib.hid ((HNu.out.below (Below.refl u1.heap.size u1).drew).recv ht (now : Int) m.2.op m.2.f m.2.fm m.2.t m.2.tm c' A' out held he ⟨by omega, by omega⟩ (by rw [htc]; exact ⟨by show (-9223372036854775808 : Int) ≤ 0; omega, by show (0 : Int) ≤ 9223372036854775807; omega⟩))
                    have HMo2 := Lib.hid hmo; have HHd := Lib.hid hhd; have HNext := Lib.hid hnext
                    have hcn := HL.out.cnt; have hnn := HL.out.sys.nn; have hln := HL.out.len
                    have hlnN : N.length ≤ i + 1 := by split at hln <;> omega
                    clear hmo hhd hnext he htc hbm htr hTk hln
                    go_upto_region 29 with fail
                    go_region_with (refine HRv.out.mono ?_; rintro x u2 ⟨B, kB, D, kD, rfl, hmr, hhr, hns, hst, hsz2⟩)
                    all_goals
                      clear qt0 ltt qm0 qm1 qm2 qm3 qm4 ltm HRv
                      have HMr := Lib.hid hmr; have HHr := Lib.hid hhr; have HNs := Lib.hid hns; clear hmr hhr hns
                      have HRe : Hid (∀ q, (fun q => ((BK (some ⟨gt, 0, none⟩) q ∨ BK (some ⟨gf, 0, none⟩) q) ∨ q = bf) ∨ q = bm) q → q < vr.heap.size ∧ u2.heap[q]? = vr.heap[q]?) := Lib.hid fun q hq => ⟨(HNu.out.std q hq).1, (hst q hq).trans (HNu.out.std q hq).2⟩
                      have hvz := HNu.out.size
                      clear hst HNu HL
                      have HEf := Lib.hid (encFrames_any n k out B kB _ a0 u2 (HG.out.below HNs.out.bel) HMr.out hn2.2 hlk HMo2.out (by omega))
                      obtain ⟨H, hH⟩ : ∃ H, held.length = H := ⟨_, rfl⟩
                      have HH := Lib.hid hH
                      rw [hH] at hhs ⊢
                      clear hH
                      obtain ⟨O, hO⟩ : ∃ O, out.length = O := ⟨_, rfl⟩
                      have HO := Lib.hid hO
                      rw [hO] at hol HEf ⊢
                      clear hO HMr HMo2
                      go_wp2_with fail
                      refine HEf.out.mono ?_
                      rintro e u3 ⟨E, kE, rfl, hre, hb3⟩
                      have HN3 := Lib.hid (HNs.out.below hb3); have HRE := Lib.hid hre; clear hre HEf HNs hb3
                      have hz3 := HN3.out.bel.size
                      go_wp2_with (at_builtin; (refine Rw.list_app rfl (.tmp 111) (.tmp 114) 46 rfl HN3.out.row (fun _ => rfl) iS _ 16 Tryd.underlying46 HJ0.out HY0.out HY1.out HY2.out rfl (by decide) N.length (by rw [List.length_map]) _ O _ (out.map fun a => frB (k, a)) rfl rfl (by rw [List.length_map]; exact HO.out) (fun h => Rw.orow_lies (Rw.orow_ofS HRE.out) (by rw [List.length_map, HO.out]; exact h)) (str_one _) (by unfold maxLen; omega) (by omega) (by omega) ?_); intro Na2 Nc2 u4 hown hgrow hat)
                      have HN4 := Lib.hid (HN3.out.app hown hgrow hat)
                      clear hown hgrow hat HN3 HRE
                      go_wp2_with fail
                      go_loopw [12, 24] (fun s12 s24 wr => ∃ j : Nat, j ≤ H ∧ s24 = .int .i64 (j : Int) ∧ s12 = .int .i64 (oz + (j : Int)) ∧ NS w u2 (Lz.set k ⟨t.T, c', A'⟩) (fun q => (fun q => ((BK (some ⟨gt, 0, none⟩) q ∨ BK (some ⟨gf, 0, none⟩) q) ∨ q = bf) ∨ q = bm) q ∨ (BK B q ∨ BK D q)) (N.map frB ++ out.map fun a => frB (k, a)) Na2 Nc2 wr) (fun _ s24 _ => H - (intOf s24).toNat)
                      case atStart => exact ⟨0, by omega, rfl, by simp, HN4.out⟩
                      case round =>
                        clear HN4
                        obtain ⟨j, hj, rfl, rfl, hN⟩ := hrel
                        obtain ⟨wz, rfl⟩ : ∃ wz : World, wz = wr := ⟨_, rfl⟩
                        have HN5 := Lib.hid hN; clear hN
                        by_cases hlj : j < H
                        · have hjl : decide ((j : Int) < (H : Int)) = true := by simp; omega
                          obtain ⟨p, hp⟩ : ∃ p, held[j]? = some p := ⟨_, List.getElem?_eq_getElem (show j < held.length by rw [HH.out]; exact hlj)⟩
                          obtain ⟨a9, ha9, hto, hmac⟩ := HHd.out p (List.mem_of_getElem? hp)
                          obtain ⟨gd, rfl, -⟩ := HHr.out.addr (by rw [HH.out]; omega)
                          have hhr := HN5.out.rows HHr.out (fun q hq => .inr (.inr hq))
                          obtain ⟨p0, p1, p2⟩ := HRow.cells hhr hp
                          have ltd := (hhr.bk' ⟨_, rfl, rfl⟩).2
                          have e9 : IntKind.i64.wrap (p.to_ - 9) = p.mac := by rw [IntWalk.i64_in _ (by omega)]; omega
                          have e8 : (p.mac != p.mac) = false := by simp
                          have e7 : decide ((n : Int) < p.mac) = false := by simp; omega
                          have j0 : (0 : Int) ≤ (j : Int) := by omega
                          have j1 : (j : Int) < (H : Int) := by omega
                          have j2 : IntKind.i64.wrap (oz + (j : Int) + 1) = oz + (j : Int) + 1 := IntWalk.i64_in _ (by omega)
                          have j3 : IntKind.i64.wrap ((j : Int) + 1) = (j : Int) + 1 := IntWalk.i64_in _ (by omega)
                          clear hp hto hmac hhr
                          go_upto_region 34 with fail
                          go_quiet (fail)
                          go_wp2_with fail
                          exact ⟨⟨j + 1, by omega, by go_num, congrArg (Value.int .i64) (by omega), HN5.out.below (below_drewN (Below.refl _ _) _)⟩, by simp [intOf]; omega⟩
                        · obtain rfl : j = H := by omega
                          have hjl : decide ((j : Int) < (j : Int)) = false := by simp
                          go_wp2_with fail
                          have hzz : vr.heap.size ≤ wz.heap.size := by have := HN5.out.size; have h3 : u1.heap.size ≤ u2.heap.size := hsz2; omega
                          have hfin := HNext.out vr _ Na2 Nc2 wz (HN5.out.re (fun q hq => ⟨.inl hq, (HRe.out q hq).1, (HRe.out q hq).2⟩) hzz)
                          rw [HH.out] at hfin
                          exact ⟨⟨k + 1, N ++ out.map (fun a => (k, a)), Na2, Nc2, _, oz + (j : Int), by omega, by go_num, by rw [List.length_append, List.length_map, HO.out], rfl, hfin⟩, by simp [intOf]; omega⟩
                · obtain rfl : k = n := by omega
                  have hkl : decide ((k : Int) < (k : Int)) = false := by simp
                  go_wp2_with fail
                  have hzz : wp.heap.size ≤ wq.heap.size := by have := HL.out.ns.size; omega
                  exact ⟨⟨i + 1, N, Na, Nc, Lz, oz, by omega, by go_num, rfl, rfl, HL.out.out_ (HL.out.ns.re (fun q hq => ⟨.inl (.inl hq), (HStd.out q hq).1, (HStd.out q hq).2⟩) hzz)⟩, by simp [intOf]; omega⟩
            · obtain rfl : i = F := by omega
              have hil : decide ((i : Int) < (i : Int)) = false := by simp
              have hLf := HL.out
              have hFi := HF.out
              rw [← hFi] at hLf
              have hL6 := hLf.ticks
              rw [hFi] at hL6
              have HL6 := Lib.hid hL6; clear hL6 hLf hFi HL
              go_wp2_with fail
              clear hil
              go_loopw [12, 15, 25] (fun s12 s15 s25 wr => ∃ (k : Nat) (N : List Ms) (Na : Option Addr) (Nc : Nat) (Lz : List Tb) (oz : Int), k ≤ n ∧ s25 = .int .i64 (k : Int) ∧ s15 = .slice Na N.length Nc ∧ s12 = .int .i64 oz ∧ L6 w wp n Ts (fun q => BK At q ∨ BK Fa q) now i sn k N Na Nc Lz oz wr) (fun _ _ s25 _ => n - (intOf s25).toNat)
              case atStart => exact ⟨0, N, Na, Nc, Ly, oy, by omega, rfl, rfl, rfl, HL6.out⟩
              case round =>
                clear HL6
                obtain ⟨k, N, Na, Nc, Lz, oz, hk, rfl, rfl, rfl, hL⟩ := hrel
                obtain ⟨wq, rfl⟩ : ∃ wq : World, wq = wr := ⟨_, rfl⟩
                have HL := Lib.hid hL; clear hL
                by_cases hlk : k < n
                · as_aux_lemma =>
                  have hkl : decide ((k : Int) < (n : Int)) = true := by simp; omega
                  have hk1 : IntKind.i64.wrap ((k : Int) + 1) = (k : Int) + 1 := IntWalk.i64_in _ (by omega)
                  have hkk0 : (0 : Int) ≤ (k : Int) := by omega
                  have hkk1 : (k : Int) < (n : Int) := by omega
                  obtain ⟨t, ht⟩ : ∃ t, Lz[k]? = some t := ⟨_, List.getElem?_eq_getElem (show k < Lz.length by rw [HL.out.sys.len]; exact hlk)⟩
                  have hTk : Ts[k]? = some t.T := by rw [← HL.out.tsL, List.getElem?_map, ht]; rfl
                  obtain ⟨gt, rfl, -⟩ := HTr.out.addr (by rw [HTl.out]; omega)
                  have htr := HL.out.ns.rows HTr.out (fun q hq => .inl hq)
                  have qt0 : wq.cell? ⟨gt, k, none⟩ = some (.pointer (some ⟨t.T, 0, none⟩)) := by have := htr.cell (fun _ => rfl) rfl hTk (r := 0) (by omega) rfl; simpa using this
                  have ltt := (htr.bk' ⟨_, rfl, rfl⟩).2
                  obtain ⟨-, hta, htk, hts⟩ := HL.out.sys.table ht
                  obtain ⟨A', out, held, he⟩ : ∃ A' out held, tickA t.c t.A (now : Int) = (A', out, held) := ⟨_, _, _, rfl⟩
                  obtain ⟨hmo, hol, hhd, hhs, hnext⟩ := HL.out.tick hlk ht he
                  have HTk := Lib.hid (HL.out.ns.tick ht (now : Int) A' out held he ⟨by omega, by omega⟩ hta htk hts)
                  have HMo2 := Lib.hid hmo; have HHd := Lib.hid hhd; have HNext := Lib.hid hnext
                  have hcn := HL.out.cnt; have hnn := HL.out.sys.nn; have hln := HL.out.len
                  clear hmo hhd hnext he htr hTk hta htk hts
                  go_wp2_with fail
                  refine HTk.out.mono ?_
                  rintro x u2 ⟨B, kB, D, kD, rfl, hmr, hhr, hns, hst, hsz2⟩
                  clear qt0 ltt HTk
                  have HMr := Lib.hid hmr; have HHr := Lib.hid hhr; have HNs := Lib.hid hns; clear hmr hhr hns
                  have HRe : Hid (∀ q, (fun q => BK (some ⟨gt, 0, none⟩) q ∨ BK Fa q) q → q < wp.heap.size ∧ u2.heap[q]? = wp.heap[q]?) := Lib.hid fun q hq => ⟨(HL.out.ns.std q hq).1, (hst q hq).trans (HL.out.ns.std q hq).2⟩
                  have hvz := HL.out.ns.size
                  clear hst HL
                  have HEf := Lib.hid (encFrames_any n k out B kB _ a0 u2 (HG.out.below HNs.out.bel) HMr.out hn2.2 hlk HMo2.out (by omega))
                  obtain ⟨H, hH⟩ : ∃ H, held.length = H := ⟨_, rfl⟩
                  have HH := Lib.hid hH
                  rw [hH] at hhs ⊢
                  clear hH
                  obtain ⟨O, hO⟩ : ∃ O, out.length = O := ⟨_, rfl⟩
                  have HO := Lib.hid hO
                  rw [hO] at hol HEf ⊢
                  clear hO HMr HMo2
                  go_wp2_with fail
                  refine HEf.out.mono ?_
                  rintro e u3 ⟨E, kE, rfl, hre, hb3⟩
                  have HN3 := Lib.hid (HNs.out.below hb3); have HRE := Lib.hid hre; clear hre HEf HNs hb3
                  have hz3 := HN3.out.bel.size
                  go_wp2_with (at_builtin; (refine Rw.list_app rfl (.tmp 160) (.tmp 163) 46 rfl HN3.out.row (fun _ => rfl) iS _ 16 Tryd.underlying46 HJ0.out HY0.out HY1.out HY2.out rfl (by decide) N.length (by rw [List.length_map]) _ O _ (out.map fun a => frB (k, a)) rfl rfl (by rw [List.length_map]; exact HO.out) (fun h => Rw.orow_lies (Rw.orow_ofS HRE.out) (by rw [List.length_map, HO.out]; exact h)) (str_one _) (by unfold maxLen; omega) (by omega) (by omega) ?_); intro Na2 Nc2 u4 hown hgrow hat)
                  have HN4 := Lib.hid (HN3.out.app hown hgrow hat)
                  clear hown hgrow hat HN3 HRE
                  go_wp2_with fail
                  go_loopw [12, 28] (fun s12 s28 wr => ∃ j : Nat, j ≤ H ∧ s28 = .int .i64 (j : Int) ∧ s12 = .int .i64 (oz + (j : Int)) ∧ NS w u2 (Lz.set k ⟨t.T, t.c, A'⟩) (fun q => (fun q => BK (some ⟨gt, 0, none⟩) q ∨ BK Fa q) q ∨ (BK B q ∨ BK D q)) (N.map frB ++ out.map fun a => frB (k, a)) Na2 Nc2 wr) (fun _ s28 _ => H - (intOf s28).toNat)
                  case atStart => exact ⟨0, by omega, rfl, by simp, HN4.out⟩
                  case round =>
                    clear HN4
                    obtain ⟨j, hj, rfl, rfl, hN⟩ := hrel
                    obtain ⟨wz, rfl⟩ : ∃ wz : World, wz = wr := ⟨_, rfl⟩
                    have HN5 := Lib.hid hN; clear hN
                    by_cases hlj : j < H
                    · have hjl : decide ((j : Int) < (H : Int)) = true := by simp; omega
                      obtain ⟨p, hp⟩ : ∃ p, held[j]? = some p := ⟨_, List.getElem?_eq_getElem (show j < held.length by rw [HH.out]; exact hlj)⟩
                      obtain ⟨hmac, hto⟩ := HHd.out p (List.mem_of_getElem? hp)
                      obtain ⟨gd, rfl, -⟩ := HHr.out.addr (by rw [HH.out]; omega)
                      have hhr := HN5.out.rows HHr.out (fun q hq => .inr (.inr hq))
                      obtain ⟨p0, p1, p2⟩ := HRow.cells hhr hp
                      have ltd := (hhr.bk' ⟨_, rfl, rfl⟩).2
                      rw [hto] at p0; rw [hmac] at p1
                      have e9 : IntKind.i64.wrap (10 + (n : Int)) = 10 + (n : Int) := IntWalk.i64_in _ (by omega)
                      have e7 : decide (10 + (n : Int) < 10 + (n : Int)) = false := by simp
                      have j0 : (0 : Int) ≤ (j : Int) := by omega
                      have j1 : (j : Int) < (H : Int) := by omega
                      have j2 : IntKind.i64.wrap (oz + (j : Int) + 1) = oz + (j : Int) + 1 := IntWalk.i64_in _ (by omega)
                      have j3 : IntKind.i64.wrap ((j : Int) + 1) = (j : Int) + 1 := IntWalk.i64_in _ (by omega)
                      clear hp hto hmac hhr
                      go_wp2_with fail
                      exact ⟨⟨j + 1, by omega, by go_num, congrArg (Value.int .i64) (by omega), HN5.out⟩, by simp [intOf]; omega⟩
                    · obtain rfl : j = H := by omega
                      have hjl : decide ((j : Int) < (j : Int)) = false := by simp
                      go_wp2_with fail
                      have hzz : wp.heap.size ≤ wz.heap.size := by have := HN5.out.size; omega
                      have hfin := HNext.out wp _ Na2 Nc2 wz (HN5.out.re (fun q hq => ⟨.inl hq, (HRe.out q hq).1, (HRe.out q hq).2⟩) hzz)
                      rw [HH.out] at hfin
                      exact ⟨⟨k + 1, N ++ out.map (fun a => (k, a)), Na2, Nc2, _, oz + (j : Int), by omega, by go_num, by rw [List.length_append, List.length_map, HO.out], rfl, hfin⟩, by simp [intOf]; omega⟩
                · obtain rfl : k = n := by omega
                  have hkl : decide ((k : Int) < (k : Int)) = false := by simp
                  obtain ⟨n, rfl⟩ : ∃ n, n = k := ⟨_, rfl⟩
                  have hcn := HL.out.cnt; have hnn := HL.out.sys.nn; have hln := HL.out.len
                  have n1 : IntKind.i64.wrap ((now : Int) + 1) = (now : Int) + 1 := IntWalk.i64_in _ (by omega)
                  by_cases c1 : now < nt
                  · have d1 : decide ((now : Int) < (nt : Int)) = true := by simp; omega
                    by_cases c2 : now < 20
                    · as_aux_lemma =>
                      have d2 : decide ((now : Int) < 20) = true := by simp; omega
                      obtain ⟨b, oo, x, rfl, hx, hb, hxo, -, y1, y2, -, -, y5, -⟩ := HA.out.at_ now c1
                      have x1 := bcell HL.out.ns.bel y1; have x2 := bcell HL.out.ns.bel y2; have x5 := bcell HL.out.ns.bel y5
                      have Y5 := Lib.hid y5; clear y1 y2 y5
                      have hkp := pick_lt x.mc (n : Int) (by omega)
                      have hap := pick_lt x.ad ((n : Int) + 1) (by omega)
                      obtain ⟨hxa, hxm, hxs⟩ : In64 x.ad ∧ In64 x.mc ∧ x.s.size ≤ 9223372036854775807 := ⟨hxo.2.1, hxo.2.2.1, by have := hxo; unfold Cl.ok at this; omega⟩
                      have HPk := Lib.hid fun W => pick_any x.mc (n : Int) W hxm (by omega) (by omega)
                      have HPa := Lib.hid fun W => pick_any x.ad ((n : Int) + 1) W hxa (by omega) (by omega)
                      obtain ⟨kk, hkk⟩ : ∃ kk : Nat, pick x.mc (n : Int) = (kk : Int) := ⟨(pick x.mc (n : Int)).toNat, by omega⟩
                      obtain ⟨aa, haa⟩ : ∃ aa : Nat, pick x.ad ((n : Int) + 1) = (aa : Int) := ⟨(pick x.ad ((n : Int) + 1)).toNat, by omega⟩
                      rw [hkk] at HPk hkp; rw [haa] at HPa hap
                      have hkn : kk < n := by omega
                      have han : aa ≤ n := by omega
                      have HSh : Hid (∀ W, Calls Tryd.prog 24 #[.string x.s] W fun e w' => e = .returned (.string (shortS x.s)) ∧ Below W.heap.size W w') := Lib.hid fun W => (short_any x.s W hxs).mono fun e w' h => ⟨h.1, h.2 ▸ Below.refl _ _⟩
                      have hsl : (shortS x.s).size ≤ 20 := short_le x.s
                      clear hkk haa hkp hap hxo hxa hxm hxs hx
                      generalize shortS x.s = sh at HSh hsl
                      have w1_ : IntKind.i64.wrap ((n : Int) + 1) = (n : Int) + 1 := IntWalk.i64_in _ (by omega)
                      have w2_ : IntKind.i64.wrap (10 + (aa : Int)) = 10 + (aa : Int) := IntWalk.i64_in _ (by omega)
                      have w3_ : IntKind.i64.wrap (10 + (kk : Int)) = 10 + (kk : Int) := IntWalk.i64_in _ (by omega)
                      have hw0 : (0 : Int) ≤ (now : Int) := by omega
                      have hw1 : (now : Int) < (nt : Int) := by omega
                      have hkk0 : (0 : Int) ≤ (kk : Int) := by omega
                      have hkk1 : (kk : Int) < (n : Int) := by omega
                      obtain ⟨t, ht⟩ : ∃ t, Lz[kk]? = some t := ⟨_, List.getElem?_eq_getElem (show kk < Lz.length by rw [HL.out.sys.len]; exact hkn)⟩
                      have hTk : Ts[kk]? = some t.T := by rw [← HL.out.tsL, List.getElem?_map, ht]; rfl
                      obtain ⟨gt, rfl, -⟩ := HTr.out.addr (by rw [HTl.out]; omega)
                      have htr := HL.out.ns.rows HTr.out (fun q hq => .inl hq)
                      have qt0 : wq.cell? ⟨gt, kk, none⟩ = some (.pointer (some ⟨t.T, 0, none⟩)) := by have := htr.cell (fun _ => rfl) rfl hTk (r := 0) (by omega) rfl; simpa using this
                      have ltt := (htr.bk' ⟨_, rfl, rfl⟩).2
                      obtain ⟨-, hta, htk, -⟩ := HL.out.sys.table ht
                      obtain ⟨A', mac, out, err, he⟩ : ∃ A' mac out err, sendF t.c t.A (now : Int) (10 + (aa : Int)) sh = (A', mac, out, err) := ⟨_, _, _, _, rfl⟩
                      clear htr hTk
                      have hways : (aa = kk ∧ err = 50 ∧ mac = 0 ∧ Sys n (fun _ => []) (N ++ out.map fun a => (kk, a)) (now : Int) (fun _ => (now : Int)) (Lz.set kk ⟨t.T, t.c, A'⟩) ∧ out.length ≤ 1 ∧ tot (Lz.set kk ⟨t.T, t.c, A'⟩) ≤ tot Lz) ∨ (aa ≠ kk ∧ err = 0 ∧ (mac = 0 ∨ mac = 1 + (aa : Int)) ∧ Sys n (fun _ => []) (N ++ out.map fun a => (kk, a)) (now : Int) (fun _ => (now : Int)) (Lz.set kk ⟨t.T, t.c, A'⟩) ∧ out.length ≤ 1 ∧ tot (Lz.set kk ⟨t.T, t.c, A'⟩) ≤ tot Lz + (if mac = 0 then 1 else 0)) := by
                        have hall := HL.out.all
                        have hts := tot_set (t' := ⟨t.T, t.c, A'⟩) ht
                        dsimp only at hts
                        by_cases e : aa = kk
                        · left
                          subst e
                          rw [hall.sendOwn ht sh] at he
                          cases he
                          refine ⟨rfl, rfl, rfl, ?_, by simp, by omega⟩
                          have hset : Lz.set aa ⟨t.T, t.c, t.A⟩ = Lz := by
                            obtain ⟨hl, e⟩ := List.getElem?_eq_some_iff.1 ht
                            rw [show (⟨t.T, t.c, t.A⟩ : Tb) = Lz[aa] from e.symm, List.set_getElem_self]
                          rw [hset, List.map_nil, List.append_nil]; exact hall
                        · right
                          obtain ⟨q1, q2, q3, q4, q5⟩ := hall.send ht rfl han e (by omega) sh (by omega)
                          rw [he] at q1 q2 q3 q4 q5
                          dsimp only at q1 q2 q3 q4 q5
                          exact ⟨e, q1, q2, q3, q4, by omega⟩
                      go_upto_region 51 with (first | ((with_reducible refine (HPk.out _).mono ?_); rintro e w' ⟨rfl, rfl⟩) | ((with_reducible refine (HPa.out _).mono ?_); rintro e w' ⟨rfl, rfl⟩))
                      obtain ⟨O, hO⟩ : ∃ O, out.length = O := ⟨_, rfl⟩
                      have HO := Lib.hid hO
                      rw [hO] at hways
                      clear hO
                      obtain ⟨Z, HZ⟩ : ∃ Z : Option Addr → Nat → World → Prop, Hid (∀ B kB wx, Z B kB wx ↔ (MRow wx wq.heap.size B kB out ∧ NS w wx (Lz.set kk ⟨t.T, t.c, A'⟩) (fun q => (fun q => BK (some ⟨gt, 0, none⟩) q ∨ BK Fa q) q ∨ BK B q) (N.map frB) Na Nc wx ∧ (∀ q, (fun q => BK (some ⟨gt, 0, none⟩) q ∨ BK Fa q) q → wx.heap[q]? = wq.heap[q]?) ∧ wq.heap.size ≤ wx.heap.size)) := ⟨_, Lib.hid fun _ _ _ => Iff.rfl⟩
                      have gq := Lib.hid qt0; have gx := Lib.hid x5
                      have HSe : Hid (∀ z, Below wq.heap.size wq z → Calls Tryd.prog 23 #[.pointer (some ⟨t.T, 0, none⟩), .int .i64 (now : Int), .int .i64 (10 + (aa : Int)), .string sh] z fun e W' => ∃ (B : Option Addr) (kB : Nat), e = .returned (.tuple #[.int .i64 mac, .slice B O kB, .int .i64 err]) ∧ Z B kB W' ∧ (fun w' : World => w'.cell? ⟨gt, kk, none⟩ = some (.pointer (some ⟨t.T, 0, none⟩)) ∧ w'.cell? ⟨b, oo + now * 12 + 5, none⟩ = some (.string x.s)) W') := Lib.hid fun z hbz => by
                        have hsd := (HL.out.ns.below hbz).send ht (now : Int) (10 + (aa : Int)) sh A' mac out err he (by omega) ⟨by omega, by omega⟩ hta htk
                        rw [HO.out] at hsd
                        refine hsd.mono fun e W' h => ?_
                        obtain ⟨B, kB, q1, q2, q3, q4, q5⟩ := h
                        have hzs := hbz.size
                        have h4 : ∀ q, (fun q => BK (some ⟨gt, 0, none⟩) q ∨ BK Fa q) q → W'.heap[q]? = wq.heap[q]? := fun q hq => (q4 q hq).trans (hbz.block q (by have h1 := (HL.out.ns.std q hq).1; have h2 := HL.out.ns.size; omega))
                        refine ⟨B, kB, q1, (HZ.out B kB W').2 ⟨q2.mono hzs, q3, h4, by omega⟩, ?_, bcell q3.bel Y5.out⟩
                        have e1 : W'.cell? ⟨gt, kk, none⟩ = wq.cell? ⟨gt, kk, none⟩ := by simp only [World.cell?, h4 gt (.inl ⟨_, rfl, rfl⟩)]
                        rw [e1]; exact gq.out
                      clear he hta htk
                      have HR := Below.refl wq.heap.size wq
                      go_region_held3 (fun w' : World => w'.cell? ⟨gt, kk, none⟩ = some (.pointer (some ⟨t.T, 0, none⟩)) ∧ w'.cell? ⟨b, oo + now * 12 + 5, none⟩ = some (.string x.s)) (first | with_reducible exact HSz.out | with_reducible exact ⟨bcell hR1.out gq.out, bcell hR1.out gx.out⟩ | exact ⟨gq.out, gx.out⟩)
                        (first | (go_at_call 23; have _t := hR1; clear _t; refine (HSe.out _ hR1.out).mono ?_; rintro e u2 ⟨B, kB, rfl, hz, hSz⟩; have HSz := Lib.hid hSz) | (go_at_call 24; refine (HSh.out _).mono ?_; rintro e z1 ⟨rfl, hbz⟩; have hR1 := Lib.hid (below_call HR.drew hbz)))
                      obtain ⟨hmr, hns, hst, hsz2⟩ := (HZ.out B kB _).1 hz
                      clear HZ hz HR hR1 hbz hSz HSz gq gx
                      clear qt0 ltt HSe HPk HPa HSh x1 x2 x5 Y5
                      have HMr := Lib.hid hmr; have HNs := Lib.hid hns; clear hmr hns
                      have HRe : Hid (∀ q, (fun q => BK (some ⟨gt, 0, none⟩) q ∨ BK Fa q) q → q < wp.heap.size ∧ u2.heap[q]? = wp.heap[q]?) := Lib.hid fun q hq => ⟨(HL.out.ns.std q hq).1, (hst q hq).trans (HL.out.ns.std q hq).2⟩
                      have hvz : wp.heap.size ≤ u2.heap.size := by have := HL.out.ns.size; omega
                      clear hst hsz2
                      have HEf : Hid ((∀ a ∈ out, MsOk n (kk, a)) → O ≤ 1000 → Calls Tryd.prog 21 #[.int .i64 (kk : Int), .slice B O kB] u2 fun e w' => ∃ (D : Option Addr) (d : Nat), e = .returned (.slice D O d) ∧ TRow w' u2.heap.size D d (out.map fun a => frB (kk, a)) ∧ Below u2.heap.size u2 w') := Lib.hid (by rw [← HO.out]; exact fun hmo => encFrames_any n kk out B kB _ a0 u2 (HG.out.below HNs.out.bel) HMr.out hn2.2 hkn hmo)
                      clear HMr
                      rcases hways with ⟨hak, rfl, rfl, hsy, hol, htt⟩ | ⟨hak, rfl, hmac, hsy, hol, htt⟩
                      · have hak2 := hak.symm
                        clear hak
                        subst hak2
                        have HSy := Lib.hid hsy; clear hsy
                        have HEg := Lib.hid (HEf.out (fun a ha => HSy.out.nx _ (List.mem_append_right _ (List.mem_map.2 ⟨a, ha, rfl⟩))) (by omega)); clear HEf
                        go_wp2_with fail
                        refine HEg.out.mono ?_
                        rintro e u3 ⟨E, kE, rfl, hre, hb3⟩
                        have HN3 := Lib.hid (HNs.out.below hb3); have HRE := Lib.hid hre; clear hre HEg HNs hb3
                        have hz3 := HN3.out.bel.size
                        go_wp2_with (at_builtin; (refine Rw.list_app rfl (.tmp 252) (.tmp 255) 46 rfl HN3.out.row (fun _ => rfl) iS _ 16 Tryd.underlying46 HJ0.out HY0.out HY1.out HY2.out rfl (by decide) N.length (by rw [List.length_map]) _ O _ (out.map fun a => frB (kk, a)) rfl rfl (by rw [List.length_map]; exact HO.out) (fun h => Rw.orow_lies (Rw.orow_ofS HRE.out) (by rw [List.length_map, HO.out]; exact h)) (str_one _) (by unfold maxLen; omega) (by omega) (by omega) ?_); intro Na2 Nc2 u4 hown hgrow hat)
                        have HN4 := Lib.hid (HN3.out.app hown hgrow hat)
                        clear hown hgrow hat HN3 HRE
                        have hzz : wp.heap.size ≤ u4.heap.size := by have := HN4.out.size; omega
                        have hN5 := HN4.out.re (Wr' := wp) (P' := (fun q => BK (some ⟨gt, 0, none⟩) q ∨ BK Fa q)) (fun q hq => ⟨.inl hq, (HRe.out q hq).1, (HRe.out q hq).2⟩) hzz
                        exact ⟨⟨now + 1, N ++ out.map (fun a => (kk, a)), Na2, Nc2, _, oz, sn, by omega, by go_num, by rw [List.length_append, List.length_map, HO.out], rfl, rfl, HL.out.turn hfl hsn HSy.out ⟨by omega, by omega⟩ (by rw [List.length_append, List.length_map, HO.out]; omega) (by rw [List.map_append, List.map_map]; exact hN5) (by rw [ts_set ht]; exact HL.out.tsL) (hN5.rows HTr.out (fun q hq => .inl hq))⟩, by simp [intOf]; omega⟩
                      · have ek : ((10 + (aa : Int)) == 10 + (kk : Int)) = false := by rw [beq_eq_false_iff_ne]; omega
                        rcases hmac with rfl | rfl
                        · rw [if_pos rfl] at htt
                          have s1 : IntKind.i64.wrap (sn + 1) = sn + 1 := IntWalk.i64_in _ (by omega)
                          have HSy := Lib.hid hsy; clear hsy
                          have HEg := Lib.hid (HEf.out (fun a ha => HSy.out.nx _ (List.mem_append_right _ (List.mem_map.2 ⟨a, ha, rfl⟩))) (by omega)); clear HEf
                          go_wp2_with fail
                          refine HEg.out.mono ?_
                          rintro e u3 ⟨E, kE, rfl, hre, hb3⟩
                          have HN3 := Lib.hid (HNs.out.below hb3); have HRE := Lib.hid hre; clear hre HEg HNs hb3
                          have hz3 := HN3.out.bel.size
                          go_wp2_with (at_builtin; (refine Rw.list_app rfl (.tmp 252) (.tmp 255) 46 rfl HN3.out.row (fun _ => rfl) iS _ 16 Tryd.underlying46 HJ0.out HY0.out HY1.out HY2.out rfl (by decide) N.length (by rw [List.length_map]) _ O _ (out.map fun a => frB (kk, a)) rfl rfl (by rw [List.length_map]; exact HO.out) (fun h => Rw.orow_lies (Rw.orow_ofS HRE.out) (by rw [List.length_map, HO.out]; exact h)) (str_one _) (by unfold maxLen; omega) (by omega) (by omega) ?_); intro Na2 Nc2 u4 hown hgrow hat)
                          have HN4 := Lib.hid (HN3.out.app hown hgrow hat)
                          clear hown hgrow hat HN3 HRE
                          have hzz : wp.heap.size ≤ u4.heap.size := by have := HN4.out.size; omega
                          have hN5 := HN4.out.re (Wr' := wp) (P' := (fun q => BK (some ⟨gt, 0, none⟩) q ∨ BK Fa q)) (fun q hq => ⟨.inl hq, (HRe.out q hq).1, (HRe.out q hq).2⟩) hzz
                          exact ⟨⟨now + 1, N ++ out.map (fun a => (kk, a)), Na2, Nc2, _, oz, sn + 1, by omega, by go_num, by rw [List.length_append, List.length_map, HO.out], rfl, rfl, HL.out.turn hfl hsn HSy.out ⟨by omega, by omega⟩ (by rw [List.length_append, List.length_map, HO.out]; omega) (by rw [List.map_append, List.map_map]; exact hN5) (by rw [ts_set ht]; exact HL.out.tsL) (hN5.rows HTr.out (fun q hq => .inl hq))⟩, by simp [intOf]; omega⟩
                        · rw [if_neg (by omega)] at htt
                          have s1 : ((1 + (aa : Int)) != 0) = true := by simp; omega
                          have s2 : IntKind.i64.wrap (10 + (aa : Int) - 9) = 1 + (aa : Int) := by rw [IntWalk.i64_in _ (by omega)]; omega
                          have s3 : ((1 + (aa : Int)) != (1 + (aa : Int))) = false := by simp
                          have s4 : ((1 + (aa : Int)) == 0) = false := by rw [beq_eq_false_iff_ne]; omega
                          have HSy := Lib.hid hsy; clear hsy
                          have HEg := Lib.hid (HEf.out (fun a ha => HSy.out.nx _ (List.mem_append_right _ (List.mem_map.2 ⟨a, ha, rfl⟩))) (by omega)); clear HEf
                          go_wp2_with fail
                          refine HEg.out.mono ?_
                          rintro e u3 ⟨E, kE, rfl, hre, hb3⟩
                          have HN3 := Lib.hid (HNs.out.below hb3); have HRE := Lib.hid hre; clear hre HEg HNs hb3
                          have hz3 := HN3.out.bel.size
                          go_wp2_with (at_builtin; (refine Rw.list_app rfl (.tmp 252) (.tmp 255) 46 rfl HN3.out.row (fun _ => rfl) iS _ 16 Tryd.underlying46 HJ0.out HY0.out HY1.out HY2.out rfl (by decide) N.length (by rw [List.length_map]) _ O _ (out.map fun a => frB (kk, a)) rfl rfl (by rw [List.length_map]; exact HO.out) (fun h => Rw.orow_lies (Rw.orow_ofS HRE.out) (by rw [List.length_map, HO.out]; exact h)) (str_one _) (by unfold maxLen; omega) (by omega) (by omega) ?_); intro Na2 Nc2 u4 hown hgrow hat)
                          have HN4 := Lib.hid (HN3.out.app hown hgrow hat)
                          clear hown hgrow hat HN3 HRE
                          have hzz : wp.heap.size ≤ u4.heap.size := by have := HN4.out.size; omega
                          have hN5 := HN4.out.re (Wr' := wp) (P' := (fun q => BK (some ⟨gt, 0, none⟩) q ∨ BK Fa q)) (fun q hq => ⟨.inl hq, (HRe.out q hq).1, (HRe.out q hq).2⟩) hzz
                          exact ⟨⟨now + 1, N ++ out.map (fun a => (kk, a)), Na2, Nc2, _, oz, sn, by omega, by go_num, by rw [List.length_append, List.length_map, HO.out], rfl, rfl, HL.out.turn hfl hsn HSy.out ⟨by omega, by omega⟩ (by rw [List.length_append, List.length_map, HO.out]; omega) (by rw [List.map_append, List.map_map]; exact hN5) (by rw [ts_set ht]; exact HL.out.tsL) (hN5.rows HTr.out (fun q hq => .inl hq))⟩, by simp [intOf]; omega⟩
                    · have d2 : decide ((now : Int) < 20) = false := by simp; omega
                      go_wp2_with fail
                      exact ⟨⟨now + 1, N, Na, Nc, Lz, oz, sn, by omega, by go_num, rfl, rfl, rfl, HL.out.turn hfl hsn HL.out.all ⟨hcn.2, by omega⟩ (by omega) HL.out.ns HL.out.tsL (HL.out.ns.rows HTr.out (fun q hq => .inl hq))⟩, by simp [intOf]; omega⟩
                  · have d1 : decide ((now : Int) < (nt : Int)) = false := by simp; omega
                    go_wp2_with fail
                    exact ⟨⟨now + 1, N, Na, Nc, Lz, oz, sn, by omega, by go_num, rfl, rfl, rfl, HL.out.turn hfl hsn HL.out.all ⟨hcn.2, by omega⟩ (by omega) HL.out.ns HL.out.tsL (HL.out.ns.rows HTr.out (fun q hq => .inl hq))⟩, by simp [intOf]; omega⟩
        · as_aux_lemma =>
          have hn6 : now = 60 := by omega
          have hil : decide ((now : Int) < 60) = false := by simp; omega
          have hcn := HS.out.cnt; have hnn := HS.out.sys.nn
          have HTr := Lib.hid HS.out.ts
          have HNs := Lib.hid HS.out.ns
          have HQ : Hid (∀ (k : Nat) (t : Tb), Lx[k]? = some t → sumA t.A = 0 ∧ t.A.length ≤ 1000) := Lib.hid fun k t ht => ⟨by have := HS.out.sys; subst hn6; exact Sys.quiet this ht, (HS.out.sys.table ht).2.1⟩
          have HLn : Hid (Lx.length = n) := Lib.hid HS.out.sys.len
          have HTs : Hid (Lx.map (·.T) = Ts) := Lib.hid HS.out.tsL
          have hos : decide (ot ≤ sn) = true := by simp; omega
          clear HS hn6
          go_wp2_with fail
          clear hil
          go_loopw [34, 35] (fun s34 s35 wr => ∃ k : Nat, k ≤ n ∧ s35 = .int .i64 (k : Int) ∧ s34 = .int .i64 0 ∧ NS w wp Lx (fun q => BK At q ∨ BK Fa q) [] none 0 wr) (fun _ s35 _ => n - (intOf s35).toNat)
          case atStart => exact ⟨0, by omega, rfl, rfl, HNs.out⟩
          case round =>
            clear HNs
            obtain ⟨k, hk, rfl, rfl, hN⟩ := hrel
            obtain ⟨wq, rfl⟩ : ∃ wq : World, wq = wr := ⟨_, rfl⟩
            have HN := Lib.hid hN; clear hN
            by_cases hlk : k < n
            · have hkl : decide ((k : Int) < (n : Int)) = true := by simp; omega
              have hk1 : IntKind.i64.wrap ((k : Int) + 1) = (k : Int) + 1 := IntWalk.i64_in _ (by omega)
              have hkk0 : (0 : Int) ≤ (k : Int) := by omega
              have hkk1 : (k : Int) < (n : Int) := by omega
              obtain ⟨t, ht⟩ : ∃ t, Lx[k]? = some t := ⟨_, List.getElem?_eq_getElem (show k < Lx.length by rw [HLn.out]; exact hlk)⟩
              have hTk : Ts[k]? = some t.T := by rw [← HTs.out, List.getElem?_map, ht]; rfl
              obtain ⟨gt, rfl, -⟩ := HTr.out.addr (by rw [HTl.out]; omega)
              have htr := HN.out.rows HTr.out (fun q hq => .inl hq)
              have qt0 : wq.cell? ⟨gt, k, none⟩ = some (.pointer (some ⟨t.T, 0, none⟩)) := by have := htr.cell (fun _ => rfl) rfl hTk (r := 0) (by omega) rfl; simpa using this
              have ltt := (htr.bk' ⟨_, rfl, rfl⟩).2
              obtain ⟨hq1, hq2⟩ := HQ.out k t ht
              have HSz := Lib.hid (HN.out.sizes ht t.A.length 0 rfl hq1 hq2)
              clear htr hTk hq1 hq2
              go_wp2_with fail
              refine HSz.out.mono ?_
              rintro e u2 ⟨rfl, hb⟩
              have HN2 := Lib.hid (HN.out.below hb); clear HN HSz hb qt0 ltt
              go_wp2_with fail
              exact ⟨⟨k + 1, by omega, by go_num, rfl, HN2.out⟩, by simp [intOf]; omega⟩
            · obtain rfl : k = n := by omega
              have hkl : decide ((k : Int) < (k : Int)) = false := by simp
              go_wp2_with fail
              go_ret
              exact ⟨rfl, HN.out.bel⟩
end Go.Proofs.YtmgjcjacoegocaaDoor.Ar
