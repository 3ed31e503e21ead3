/-
  Contracts of release (the pending packets of an entry), defend.
-/
import Derived.Test.YtmgjcjacoegocaaDoorArFn
import Derived.Test.YtmgjcjacoegocaaDoorHeld
import Derived.Deep.AppendLies
import Derived.Deep.RegionLawGrows
import Derived.OwnWalk
namespace Go.Proofs.YtmgjcjacoegocaaDoor.Ar
set_option maxRecDepth 100000
open Go.RowKit Go.Proofs.YtmgjcjacoegocaaDoor.Wire

theorem infoAm : (Tryd.prog.info? 52).map (fun i => (i.zero, i.size, i.bytes)) = some (some (.agg #[.int .i64 0, .int .i64 0, .int .i64 0, .int .i64 0, .int .i64 0]), 5, 40) := by kernel_rfl
theorem infoHp : (Tryd.prog.info? 62).map (fun i => (i.zero, i.size, i.bytes)) = some (some (.agg #[.int .i64 0, .int .i64 0, .string ⟨#[]⟩]), 3, 32) := by kernel_rfl
theorem infoStr : (Tryd.prog.info? 9).map (fun i => (i.zero, i.size, i.bytes)) = some (some (.string ⟨#[]⟩), 1, 16) := by kernel_rfl
def BK (A : Option Addr) (q : Nat) : Prop := ∃ a, A = some a ∧ a.block = q
theorem ob_bk {D : Option Addr} {n d k : Nat} (e : Value.ownBlock (.slice D n d) = some k) : BK D k := by
  cases D with
  | none => cases e
  | some a => exact ⟨a, rfl, by simpa [Value.ownBlock] using e⟩
theorem SRow.bk' {α : Type} {T : TypeId} {k : Nat} {enc : α → List Value} {W : World} {lo : Nat} {A : Option Addr} {c : Nat} {l : List α} (h : SRow T k enc W lo A c l) {q : Nat} (hq : BK A q) : lo ≤ q ∧ q < W.heap.size := by
  obtain ⟨a, e, rfl⟩ := hq
  exact h.bk e
/-- the row behind an append of one element -/
theorem SRow.app {α : Type} {T : TypeId} {k : Nat} {enc : α → List Value} {W' : World} {lo g cap : Nat} {l : List α} {x : α} (ho : W'.ownsRow lo T k (.slice (some ⟨g, 0, none⟩) (l.length + 1) cap) (l.length + 1) (l.flatMap enc ++ enc x)) : SRow T k enc W' lo (some ⟨g, 0, none⟩) cap (l ++ [x]) := by
  unfold SRow
  have e1 : (l ++ [x]).length = l.length + 1 := by simp
  have e2 : (l ++ [x]).flatMap enc = l.flatMap enc ++ enc x := by simp
  rw [e1, e2]; exact ho
set_option maxHeartbeats 4000000 in
theorem release_any (eb : Nat) (Hb : Option Addr) (hc : Nat) (held : List ByteArray) (sent first last to_ mac : Int) (w : World)
    (h0 : w.heap[eb]? = some (.cells #[.slice Hb held.length hc, .int .i64 sent, .int .i64 first, .int .i64 last] 135)) (hr : TRow w 0 Hb hc held) (hl : held.length ≤ 1000) :
    Calls Tryd.prog 55 #[.pointer (some ⟨eb, 0, none⟩), .int .i64 to_, .int .i64 mac] w fun e w' => (∃ B c, e = .returned (.slice B held.length c) ∧ HRow w' w.heap.size B c (held.map fun s => (⟨to_, mac, s⟩ : Hp))) ∧ Below w.heap.size w w' := by
  obtain ⟨i0, hi, hz0, hz1, hz2⟩ := info_parts infoHp
  have HI := Lib.hid hi; have HZ0 := Lib.hid hz0; have HZ1 := Lib.hid hz1; have HZ2 := Lib.hid hz2
  obtain ⟨N, hN⟩ : ∃ N, held.length = N := ⟨_, rfl⟩
  obtain ⟨q0, -, -, -⟩ := (cells4 h0).1
  rw [hN] at q0 hl
  have HR := Lib.hid hr; have HN := Lib.hid hN
  rw [hN]
  clear hi hz0 hz1 hz2 h0 hr hN
  go_enter Tryd.func55, Tryd.ntmps55
  go_wp2_with fail
  go_loopw [7, 15] (fun o i wr => ∃ (k : Nat) (A : Option Addr) (c : Nat), k ≤ N ∧ i = .int .i64 (k : Int) ∧ o = .slice A k c ∧ HRow wr w.heap.size A c ((held.take k).map fun s => (⟨to_, mac, s⟩ : Hp)) ∧ Below w.heap.size w wr) (fun _ i _ => N - (Go.RowKit.intOf i).toNat)
  case atStart => exact ⟨0, none, 0, Nat.zero_le _, rfl, rfl, SRow.nil _ _ _ _ _, Below.refl _ _⟩
  case round =>
    obtain ⟨k, A, c, hk, rfl, rfl, hO, hB⟩ := hrel
    have HO := Lib.hid hO; have HB := Lib.hid hB; clear hO hB
    obtain ⟨wx, rfl⟩ : ∃ wo : World, wo = wr := ⟨_, rfl⟩
    by_cases hlt : k < N
    · have hkl : decide ((k : Int) < (N : Int)) = true := decide_eq_true (by omega)
      have hk0 : (0 : Int) ≤ (k : Int) := by omega
      have hk1 : (k : Int) < (N : Int) := by omega
      obtain ⟨s, hs⟩ : ∃ s, held[k]? = some s := ⟨_, List.getElem?_eq_getElem (by rw [HN.out]; exact hlt)⟩
      obtain ⟨g, rfl, -⟩ := HR.out.addr (by rw [HN.out]; omega)
      have c0 : wx.cell? ⟨g, k, none⟩ = some (.string s) := by
        have := (HR.out.below HB.out).cell (fun _ => rfl) rfl hs (r := 0) (by omega) rfl
        simpa using this
      have hlen : ((held.take k).map fun s => (⟨to_, mac, s⟩ : Hp)).length = k := by simp; rw [HN.out]; omega
      have HL := Lib.hid hlen
      have hz := HB.out.size
      have htk : (held.take (k + 1)).map (fun s => (⟨to_, mac, s⟩ : Hp)) = (held.take k).map (fun s => (⟨to_, mac, s⟩ : Hp)) ++ [⟨to_, mac, s⟩] := by
        rw [List.take_add_one, hs]; simp
      have HTK := Lib.hid htk
      have hOw : wx.ownsRow w.heap.size 62 3 (.slice A k c) k (((held.take k).map fun s => (⟨to_, mac, s⟩ : Hp)).flatMap Hp.cells) := by have := HO.out; unfold HRow SRow at this; rw [hlen] at this; exact this
      have HOW := Lib.hid hOw
      clear hs hlen htk hOw
      go_wp2_with (at_builtin; refine wpList_append_lies _ rfl (.tmp 19) (.tmp 24) 57 rfl w.heap.size 62 i0 (.agg #[.int .i64 0, .int .i64 0, .string ⟨#[]⟩]) 3 32 Tryd.underlying57 HI.out HZ0.out HZ1.out HZ2.out rfl (by decide) (.slice A k c) k _ rfl (HOW.out.alloc _) ⟨wx.heap.size, 0, none⟩ 1 1 [.int .i64 to_, .int .i64 mac, .string s] rfl rfl (World.news_of_block (heap_alloc_new wx _)) (by simp [Value.oneCell']) (by omega) (by unfold maxLen; omega) (by omega) (by simp; omega) (wx.heap.size + 1) (by simp) ?_; intro g2 cap w7 hown hgrow hat hlt)
      go_roundw
      case rel =>
        refine ⟨k + 1, _, _, by omega, by go_num, rfl, ?_, ?_⟩
        · rw [HTK.out]
          exact SRow.app (x := (⟨to_, mac, s⟩ : Hp)) (by rw [HL.out]; exact hown)
        · exact (below_alloc HB.out).grown hgrow (by simp; omega) (fun q e => by have := (HO.out.bk' (ob_bk e)).1; omega)
      case measure => simp [Go.RowKit.intOf]; omega
    · obtain rfl : k = N := by omega
      have hkl : decide ((k : Int) < (k : Int)) = false := by simp
      go_wp2_with fail
      go_ret
      refine ⟨⟨_, _, rfl, ?_⟩, HB.out⟩
      have := HO.out
      rw [List.take_of_length_le (by rw [HN.out]; exact Nat.le_refl _)] at this
      exact this
/-- a request -/
def req (c : Tc) (to_ : Int) : Am := ⟨1, c.own, c.mac, to_, 0⟩
/-- the defence of the table's own address -/
def defA (c : Tc) (now : Int) : Tc × List Am := if c.ann && !agedB now c.at_ 10 then (c, []) else ({ c with ann := true, at_ := now }, [req c c.own])
theorem Chg.drew {S : Nat → Prop} {a w : World} (h : Chg S a w) : Chg S a w.drew := ⟨h.os, h.tape, h.output, h.size, h.block⟩
theorem Chg.alloc {S : Nat → Prop} {a w : World} (h : Chg S a w) (o : Obj) : Chg S a (w.alloc o) := h.below ((Below.refl _ _).alloc (Nat.le_refl _) o)
theorem mrow_one {W : World} {g lo : Nat} {a : Am} (hlo : lo ≤ g) (h : W.heap[g]? = some (.cells #[.int .i64 a.op, .int .i64 a.f, .int .i64 a.fm, .int .i64 a.t, .int .i64 a.tm] 52 (0, 0))) : MRow W lo (some ⟨g, 0, none⟩) 1 [a] :=
  SRow.new hlo amk h rfl (by simp [maxLen])
set_option maxHeartbeats 4000000 in
theorem defend_any (T : Nat) (m : Option Nat) (es : Array MapEntry) (clk : Nat) (c : Tc) (L : List En) (now : Int) (w : World) (h : Tab w T m es clk c L) (h1 : In64 now) (h2 : In64 c.at_) :
    Calls Tryd.prog 54 #[.pointer (some ⟨T, 0, none⟩), .int .i64 now] w fun e w' => (∃ B k, e = .returned (.slice B (defA c now).2.length k) ∧ MRow w' w.heap.size B k (defA c now).2) ∧ Tab w' T m es clk (defA c now).1 L ∧ Chg (fun q => q = T) w w' := by
  obtain ⟨own, mac, ann, at_⟩ := c
  obtain ⟨q0, q1, q2, q3, q4⟩ := cellsT h
  obtain ⟨⟨-, -, -, -, -⟩, z0, z1, z2, z3, z4⟩ := cells5 h.tab
  have lt := blk_lt h.tab
  dsimp only at q0 q1 q3 q4 h2
  have HT := Lib.hid h
  have HA := Lib.hid (aged_any now at_ 10 h1 h2)
  unfold defA
  dsimp only
  generalize agedB now at_ 10 = ag at *
  clear h h1 h2
  go_enter Tryd.func54, Tryd.ntmps54
  by_cases hc : ann = true ∧ ag = false
  · obtain ⟨rfl, rfl⟩ := hc
    go_wp2_with (go_at_call 57; (with_reducible refine (HA.out _).mono ?_); rintro e w' ⟨rfl, rfl⟩)
    go_ret
    exact ⟨⟨none, 0, rfl, SRow.nil _ _ _ _ _⟩, HT.out, Chg.refl _ _⟩
  · have hb : (ann && !ag) = false := by cases ann <;> cases ag <;> simp_all
    rw [hb]
    have hcase : ann = false ∨ (ann = true ∧ ag = true) := by cases ann <;> cases ag <;> simp_all
    have ht2 : Hid (∀ W : World, W = World.setCell (World.setCell w ⟨T, 3, none⟩ (.bool true)) ⟨T, 4, none⟩ (.int .i64 now) → Tab W T m es clk ⟨own, mac, true, now⟩ L ∧ Chg (fun q => q = T) w W) := Lib.hid (fun W hW => by
      subst hW
      have hch : Chg (fun q => q = T) w (World.setCell (World.setCell w ⟨T, 3, none⟩ (.bool true)) ⟨T, 4, none⟩ (.int .i64 now)) := Chg.setCell (p := ⟨T, 4, none⟩) (Chg.setCell (p := ⟨T, 3, none⟩) (Chg.refl (fun q => q = T) w) (.inl rfl) _) (.inl rfl) _
      exact ⟨HT.out.own hch (cells_eq (block_setCell (k := 4) (v := .int .i64 now) (block_setCell (k := 3) (v := .bool true) HT.out.tab)) (by simp)), hch⟩)
    clear hb hc HT
    rcases hcase with rfl | ⟨rfl, rfl⟩
    all_goals
      go_upto_region 4 with (go_at_call 57; (with_reducible refine (HA.out _).mono ?_); rintro e w' ⟨rfl, rfl⟩)
      obtain ⟨w1, hw1⟩ : ∃ w1, World.setCell (World.setCell w ⟨T, 3, none⟩ (.bool true)) ⟨T, 4, none⟩ (.int .i64 now) = w1 := ⟨_, rfl⟩
      rw [hw1]
      obtain ⟨hT1, hC1⟩ := ht2.out w1 hw1.symm
      have HT1 := Lib.hid hT1; have HC1 := Lib.hid hC1
      obtain ⟨r0, r1, -⟩ := cellsT hT1
      have lt1 := blk_lt hT1.tab
      clear hw1 ht2 hT1 hC1 q0 q1 q2 q3 q4 z0 z1 z2 z3 z4 HA
      go_wp2_with fail
      refine (request_any T m es clk ⟨own, mac, true, now⟩ L own w1 HT1.out).mono ?_
      rintro e w2 ⟨rfl, hb2⟩
      go_wp2_with fail
      go_ret
      exact ⟨⟨some ⟨w2.heap.size, 0, none⟩, 1, rfl, mrow_one (a := req ⟨own, mac, true, now⟩ own) (by have := hb2.size; have := HC1.out.size; omega) (alloc_new w2 _)⟩, (HT1.out.below hb2).below ((Below.refl _ _).alloc (Nat.le_refl _) _), (HC1.out.below hb2).alloc _⟩
end Go.Proofs.YtmgjcjacoegocaaDoor.Ar
