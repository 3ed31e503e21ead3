/-
  The contract of (*half).store: a fragment that does not conflict is laid into the datagram.
-/
import Derived.Test.YtmeldgnjgogacaaReChg
import Derived.StillTailTactics
import Derived.RegionTactic
import Derived.BigRegion
import Derived.IntWalk
namespace Go.Proofs.Ytmeldgnjgogacaa.Re
set_option maxRecDepth 100000
open Go.RowKit Go.Proofs.Ytmeldgnjgogacaa.Wire
open Go.Proofs.Ytmeldgnjgogacaa.Ip (Pk)

/-- one byte is laid -/
def laySet (H : Hf) (j : Nat) (b : UInt8) : Hf := if H.hv.getD j false then H else { H with hv := H.hv.set j true, by_ := H.by_.set j b, cnt := H.cnt + 1 }
def layN (s : ByteArray) (o : Nat) (H : Hf) : Nat → Hf
  | 0 => H
  | n + 1 => laySet (layN s o H n) (o + n) (s.data.toList.getD n 0)
/-- room for n bytes -/
def growF (H : Hf) (n : Nat) : Hf := { H with by_ := H.by_ ++ List.replicate (n - H.by_.length) 0, hv := H.hv ++ List.replicate (n - H.by_.length) false }
def endF (H : Hf) (p : Pk) : Hf := if p.mf then H else { H with ended := true, en := p.off + p.s.size }
def firstF (H : Hf) (p : Pk) : Hf := if p.off = 0 ∧ H.started = false then { H with started := true, first := p } else H
/-- the fragment is laid -/
def storeF (H : Hf) (p : Pk) : Hf := firstF (endF (layN p.s p.off.toNat (growF H (p.off.toNat + p.s.size)) p.s.size) p) p
theorem laySet_there {H : Hf} {j : Nat} {b : UInt8} (h : H.hv[j]? = some true) : laySet H j b = H := by
  unfold laySet; rw [List.getD_eq_getElem?_getD, h]; rfl
theorem laySet_new {H : Hf} {j : Nat} {b : UInt8} (h : H.hv[j]? = some false) : laySet H j b = { H with hv := H.hv.set j true, by_ := H.by_.set j b, cnt := H.cnt + 1 } := by
  unfold laySet; rw [List.getD_eq_getElem?_getD, h]; rfl
theorem laySet_len (H : Hf) (j : Nat) (b : UInt8) : (laySet H j b).by_.length = H.by_.length ∧ (laySet H j b).hv.length = H.hv.length := by
  unfold laySet; split <;> simp
theorem layN_len (s : ByteArray) (o : Nat) (H : Hf) : ∀ n, (layN s o H n).by_.length = H.by_.length ∧ (layN s o H n).hv.length = H.hv.length
  | 0 => ⟨rfl, rfl⟩
  | n + 1 => by
    obtain ⟨h1, h2⟩ := layN_len s o H n
    obtain ⟨k1, k2⟩ := laySet_len (layN s o H n) (o + n) (s.data.toList.getD n 0)
    exact ⟨k1.trans h1, k2.trans h2⟩
theorem laySet_cnt (H : Hf) (j : Nat) (b : UInt8) : H.cnt ≤ (laySet H j b).cnt ∧ (laySet H j b).cnt ≤ H.cnt + 1 := by
  unfold laySet; split
  · exact ⟨by omega, by omega⟩
  · exact ⟨by show _ ≤ H.cnt + 1; omega, by show H.cnt + 1 ≤ _; omega⟩
theorem layN_cnt (s : ByteArray) (o : Nat) (H : Hf) : ∀ n : Nat, H.cnt ≤ (layN s o H n).cnt ∧ (layN s o H n).cnt ≤ H.cnt + n
  | 0 => ⟨Int.le_refl _, by show H.cnt ≤ H.cnt + 0; omega⟩
  | n + 1 => by
    have h := layN_cnt s o H n
    have k := laySet_cnt (layN s o H n) (o + n) (s.data.toList.getD n 0)
    exact ⟨by show H.cnt ≤ (laySet _ _ _).cnt; omega, by show (laySet _ _ _).cnt ≤ _; omega⟩
theorem HSt.first1 {S : Nat → Prop} {w we : World} {hb : Nat} {H : Hf} {Ab Ah : Option Addr} {cb ch : Nat} (h : HSt S w we hb H Ab cb Ah ch) (p : Pk) : HSt S w ((((((((((we.setCell ⟨hb, 7, none⟩ (.bool true)).setCell ⟨hb, 8, none⟩ (.int .i64 p.f)).setCell ⟨hb, 9, none⟩ (.int .i64 p.t)).setCell ⟨hb, 10, none⟩ (.int .i64 p.pr)).setCell ⟨hb, 11, none⟩ (.int .i64 p.ttl)).setCell ⟨hb, 12, none⟩ (.int .i64 p.id)).setCell ⟨hb, 13, none⟩ (.bool p.df)).setCell ⟨hb, 14, none⟩ (.bool p.mf)).setCell ⟨hb, 15, none⟩ (.int .i64 p.off)).setCell ⟨hb, 16, none⟩ (.string p.s)).drew hb { H with started := true, first := p } Ab cb Ah ch :=
  (h.field (only_set (only_set (only_set (only_set (only_set (only_set (only_set (only_set (only_set (only_set (World.grownBy.refl we (some hb)) (.inl rfl) (.bool true) (p := ⟨hb, 7, none⟩)) (.inl rfl) (.int .i64 p.f) (p := ⟨hb, 8, none⟩)) (.inl rfl) (.int .i64 p.t) (p := ⟨hb, 9, none⟩)) (.inl rfl) (.int .i64 p.pr) (p := ⟨hb, 10, none⟩)) (.inl rfl) (.int .i64 p.ttl) (p := ⟨hb, 11, none⟩)) (.inl rfl) (.int .i64 p.id) (p := ⟨hb, 12, none⟩)) (.inl rfl) (.bool p.df) (p := ⟨hb, 13, none⟩)) (.inl rfl) (.bool p.mf) (p := ⟨hb, 14, none⟩)) (.inl rfl) (.int .i64 p.off) (p := ⟨hb, 15, none⟩)) (.inl rfl) (.string p.s) (p := ⟨hb, 16, none⟩)) { H with started := true, first := p } (by rw [(block_setCell (k := 16) (v := .string p.s) (block_setCell (k := 15) (v := .int .i64 p.off) (block_setCell (k := 14) (v := .bool p.mf) (block_setCell (k := 13) (v := .bool p.df) (block_setCell (k := 12) (v := .int .i64 p.id) (block_setCell (k := 11) (v := .int .i64 p.ttl) (block_setCell (k := 10) (v := .int .i64 p.pr) (block_setCell (k := 9) (v := .int .i64 p.t) (block_setCell (k := 8) (v := .int .i64 p.f) (block_setCell (k := 7) (v := .bool true) h.half.1))))))))))]; simp) rfl rfl).drew
theorem info_u8 : (Try.prog.info? 5).map (fun i => (i.zero, i.size, i.bytes)) = some (some (.int .u8 0), 1, 1) := by kernel_rfl
theorem info_bool : (Try.prog.info? 4).map (fun i => (i.zero, i.size, i.bytes)) = some (some (.bool false), 1, 1) := by kernel_rfl
def StorePost (S : Nat → Prop) (w : World) (hb : Nat) (H : Hf) (e : Ending) (w' : World) : Prop := e = .returned (.tuple #[]) ∧ ∃ Ab cb Ah ch, HSt S w w' hb H Ab cb Ah ch
set_option maxHeartbeats 8000000 in
theorem store_aux (H : Hf) (f t pr ttl id : Int) (df mf : Bool) (o : Nat) (s : ByteArray) (hb : Nat) (Ab : Option Addr) (cb : Nat) (Ah : Option Addr) (ch : Nat) (w : World) (S : Nat → Prop) (hH : HalfB w hb H Ab cb Ah ch) (hd : Dis hb Ab Ah) (hS : ∀ k, In3 hb Ab Ah k → S k) (hSl : ∀ k, S k → k < w.heap.size)
    (hlen : H.hv.length = H.by_.length) (hm : o + s.size ≤ 4000) (hs : H.by_.length ≤ 4000) (hc : 0 ≤ H.cnt ∧ H.cnt ≤ 4000) :
    Calls Try.prog 37 #[.pointer (some ⟨hb, 0, none⟩), .agg #[.int .i64 f, .int .i64 t, .int .i64 pr, .int .i64 ttl, .int .i64 id, .bool df, .bool mf, .int .i64 (o : Int), .string s]] w (StorePost S w hb (firstF (endF (layN s o (growF H (o + s.size)) s.size) ⟨f, t, pr, ttl, id, df, mf, o, s⟩) ⟨f, t, pr, ttl, id, df, mf, o, s⟩)) := by
  have HP := Lib.hid (alloc_new w (.cells #[.int .i64 f, .int .i64 t, .int .i64 pr, .int .i64 ttl, .int .i64 id, .bool df, .bool mf, .int .i64 (o : Int), .string s] 30))
  have HS := Lib.hid ((HSt.start hH hd hS).alloc (.cells #[.int .i64 f, .int .i64 t, .int .i64 pr, .int .i64 ttl, .int .i64 id, .bool df, .bool mf, .int .i64 (o : Int), .string s] 30))
  have hlt := blk_lt hH.1
  have HN : Hid (¬ In3 hb Ab Ah w.heap.size) := Lib.hid fun q => absurd (hSl _ (hS _ q)) (by omega)
  have HSL := Lib.hid hSl
  have HLEN := Lib.hid hlen
  clear hH hd hS hSl
  obtain ⟨L, hL⟩ : ∃ L, H.by_.length = L := ⟨_, rfl⟩
  have HL := Lib.hid hL
  rw [hL] at hs hlen
  go_enter Try.func37, Try.ntmps37
  by_cases hg : L < o + s.size
  · have g1 : (0 : Int) < (o : Int) + (s.size : Int) - (L : Int) := by omega
    obtain ⟨m, hmm⟩ : ∃ m, m = o + s.size - L := ⟨_, rfl⟩
    obtain ⟨i8, hi8, hz8, hs8, hb8⟩ := info_parts info_u8
    obtain ⟨ib, hib, hzb, hsb, hbb⟩ := info_parts info_bool
    have hml : H.by_.length + m ≤ 1000000 := by have := HL.out; omega
    have hmh : H.hv.length + m ≤ 1000000 := by omega
    obtain ⟨g1', c1', W1, hr1, ho1, hg1, hw1, -⟩ := run_zeros_own (P := Try.prog) (w.alloc (.cells #[.int .i64 f, .int .i64 t, .int .i64 pr, .int .i64 ttl, .int .i64 id, .bool df, .bool mf, .int .i64 (o : Int), .string s] 30)) 41 3 41 5 i8 (.int .u8 0) Try.underlying41 Try.underlying3 hi8 hz8 hs8 hb8 rfl rfl (.slice Ab H.by_.length cb) H.by_.length (byC H.by_) (by have := HS.out.half.2.1; unfold Sl at this; rw [show (byC H.by_).length = H.by_.length by simp [byC]] at this; exact this) m (by omega) hml
    have HS2 := Lib.hid (HS.out.moreBy ho1 hg1 hw1)
    have HW1 : Hid (W1.heap[hb]? = (w.alloc (.cells #[.int .i64 f, .int .i64 t, .int .i64 pr, .int .i64 ttl, .int .i64 id, .bool df, .bool mf, .int .i64 (o : Int), .string s] 30)).heap[hb]?) := Lib.hid (hg1.block hb HS.out.blk (fun e => by
      cases Ab with
      | none => cases e
      | some a => exact HS.out.dis.b a rfl (by simpa [Value.ownBlock] using e.symm)))
    have HP2 : Hid ((W1.setCell ⟨hb, 2, none⟩ (.slice (some ⟨g1', 0, none⟩) (H.by_.length + m) c1')).heap[w.heap.size]? = some (.cells #[.int .i64 f, .int .i64 t, .int .i64 pr, .int .i64 ttl, .int .i64 id, .bool df, .bool mf, .int .i64 (o : Int), .string s] 30)) := Lib.hid (block_set_other ((hg1.block _ (by simp) (fun e => by
      cases Ab with
      | none => cases e
      | some a => exact HN.out (.inr (.inl ⟨a, rfl, by simpa [Value.ownBlock] using e.symm⟩)))).trans HP.out) (by show hb ≠ _; omega))
    have hmh2 : H.hv.length + m ≤ 1000000 := hmh
    obtain ⟨g2', c2', W3, hr2, ho2, hg2, hw2, -⟩ := run_zeros_own (P := Try.prog) (W1.setCell ⟨hb, 2, none⟩ (.slice (some ⟨g1', 0, none⟩) (H.by_.length + m) c1')) 43 3 43 4 ib (.bool false) Try.underlying43 Try.underlying3 hib hzb hsb hbb rfl rfl (.slice Ah H.hv.length ch) H.hv.length (boC H.hv) (by have := HS2.out.half.2.2; unfold Sl at this; rw [show (boC H.hv).length = H.hv.length by simp [boC]] at this; exact this) m (by omega) hmh
    have HS3 := Lib.hid (HS2.out.moreHv ho2 hg2 hw2)
    have hob : ∀ k, Value.ownBlock (.slice Ah H.hv.length ch) = some k → ∃ a, Ah = some a ∧ a.block = k := fun k e => by
      cases Ah with
      | none => cases e
      | some a => exact ⟨a, rfl, by simpa [Value.ownBlock] using e⟩
    have HW3 : Hid (W3.heap[hb]? = (W1.setCell ⟨hb, 2, none⟩ (.slice (some ⟨g1', 0, none⟩) (H.by_.length + m) c1')).heap[hb]?) := Lib.hid (hg2.block hb HS2.out.blk (fun e => by
      obtain ⟨a, q1, q2⟩ := hob _ e.symm; exact HS2.out.dis.h a q1 q2))
    have HP3 : Hid ((W3.setCell ⟨hb, 3, none⟩ (.slice (some ⟨g2', 0, none⟩) (H.hv.length + m) c2')).heap[w.heap.size]? = some (.cells #[.int .i64 f, .int .i64 t, .int .i64 pr, .int .i64 ttl, .int .i64 id, .bool df, .bool mf, .int .i64 (o : Int), .string s] 30)) := Lib.hid (block_set_other ((hg2.block _ (blk_lt HP2.out) (fun e => by
      obtain ⟨a, q1, q2⟩ := hob _ e.symm; exact HN.out (.inr (.inr ⟨a, q1, q2⟩)))).trans HP2.out) (by show hb ≠ _; omega))
    have HNX : Hid (¬ In3 hb (some ⟨g1', 0, none⟩) (some ⟨g2', 0, none⟩) w.heap.size) := Lib.hid (by
      rintro (q | ⟨a, e, q⟩ | ⟨a, e, q⟩)
      · omega
      · cases e
        rcases hw1 with q1 | q1
        · cases Ab with
          | none => cases q1
          | some a => exact HN.out (.inr (.inl ⟨a, rfl, by simp [Value.ownBlock] at q1; rw [q1]; exact q⟩))
        · simp at q1 q; omega
      · cases e
        rcases hw2 with q1 | q1
        · obtain ⟨a, e1, e2⟩ := hob _ q1; exact HN.out (.inr (.inr ⟨a, e1, e2.trans q⟩))
        · have := hg1.size; simp [World.setCell] at q1 q this; omega)
    have Hh := Lib.hid HS.out.half.1
    have qh2 := (cell_of_block (k := 2) Hh.out rfl).1
    have Hh1 := Lib.hid (HW1.out.trans HS.out.half.1)
    have qh2b := (cell_of_block (k := 2) Hh1.out rfl).1; have zh2b := (cell_of_block (k := 2) Hh1.out rfl).2
    have qh3 := (cell_of_block (k := 3) HS2.out.half.1 rfl).1
    have Hh3 := Lib.hid (HW3.out.trans HS2.out.half.1)
    have qh3b := (cell_of_block (k := 3) Hh3.out rfl).1; have zh3b := (cell_of_block (k := 3) Hh3.out rfl).2
    have HGX : Hid (growF H (o + s.size) = { H with by_ := H.by_ ++ List.replicate m 0, hv := H.hv ++ List.replicate m false }) := Lib.hid (by unfold growF; rw [hmm, ← HL.out])
    rw [← HGX.out] at HS3
    have em : (m : Int) = (o : Int) + (s.size : Int) - (L : Int) := by omega
    rw [hL] at qh2 hr1 hr2 qh3
    rw [em] at hr1 hr2
    have HR1 := Lib.hid hr1; have HR2 := Lib.hid hr2
    have HLX : Hid (o + s.size ≤ (growF H (o + s.size)).by_.length ∧ (growF H (o + s.size)).hv.length = (growF H (o + s.size)).by_.length) := Lib.hid (by rw [HGX.out]; have := HL.out; have := HLEN.out; simp; omega)
    have HCX : Hid (0 ≤ (growF H (o + s.size)).cnt ∧ (growF H (o + s.size)).cnt ≤ 4000) := Lib.hid (by rw [HGX.out]; exact hc)
    clear hr1 hr2 em hob ho1 hg1 hw1 ho2 hg2 hw2 hL HW1 HW3 hi8 hz8 hs8 hb8 hib hzb hsb hbb hml hmh hmh2 Hh Hh1 Hh3 HP2 HS2 HN HP HS hmm HLEN hc HGX
    have hlen2 := Lib.hid hlen; have hs2 := Lib.hid hs; clear hlen
    have qpx := (cell_of_block (k := 7) HP3.out rfl).1
    go_wp2_with (first | (at_builtin; refine Lib.wpList_append_run _ rfl _ _ _ _ rfl _ _ rfl rfl _ _ HR1.out ?_) | (at_builtin; refine Lib.wpList_append_run _ rfl _ _ _ _ rfl _ _ rfl rfl _ _ HR2.out ?_))
    have HPX := HP3; have HS := HS3
    clear HP3 HS3 HR1 HR2 qh2 qh2b zh2b qh3 qh3b zh3b qpx hlen2 hs2 g1
    generalize hHx : growF H (o + s.size) = Hx at *
    generalize W3.setCell ⟨hb, 3, none⟩ (.slice (some ⟨g2', 0, none⟩) (H.hv.length + m) c2') = Wx at *
    obtain ⟨Ax, hAx⟩ : ∃ A, A = (some ⟨g1', 0, none⟩ : Option Addr) := ⟨_, rfl⟩
    obtain ⟨Bx, hBx⟩ : ∃ A, A = (some ⟨g2', 0, none⟩ : Option Addr) := ⟨_, rfl⟩
    obtain ⟨cx, hcx⟩ : ∃ A, A = c1' := ⟨_, rfl⟩
    obtain ⟨dx, hdx⟩ : ∃ A, A = c2' := ⟨_, rfl⟩
    rw [← hAx, ← hBx] at HS HNX
    rw [← hcx, ← hdx] at HS
    clear hAx hBx hcx hdx hHx HL
    go_loopw [6] (fun i wr => ∃ j : Nat, o ≤ j ∧ j ≤ o + s.size ∧ i = .int .i64 (j : Int) ∧ HSt S w wr hb (layN s o Hx (j - o)) Ax cx Bx dx ∧ wr.heap[w.heap.size]? = some (.cells #[.int .i64 f, .int .i64 t, .int .i64 pr, .int .i64 ttl, .int .i64 id, .bool df, .bool mf, .int .i64 (o : Int), .string s] 30)) (fun i _ => ((o : Int) + s.size - intOf i).toNat)
    case atStart => exact ⟨o, by omega, by omega, rfl, by rw [Nat.sub_self]; exact HS.out, HPX.out⟩
    case round =>
      obtain ⟨j, hj1, hj2, rfl, hS1, hP1⟩ := hrel
      have HS1 := Lib.hid hS1; have HP1 := Lib.hid hP1; clear hS1 hP1 HS HPX
      obtain ⟨k, hk⟩ : ∃ k, j = o + k := ⟨j - o, by omega⟩
      have hjk : j - o = k := by omega
      rw [hjk] at HS1
      have HJ := Lib.hid hk; have HJK := Lib.hid hjk; clear hk hjk
      obtain ⟨Hk, hHk⟩ : ∃ Hk, layN s o Hx k = Hk := ⟨_, rfl⟩
      have hl1 := (layN_len s o Hx k).1; have hl2 := (layN_len s o Hx k).2
      have hcn := layN_cnt s o Hx k
      rw [hHk] at HS1 hl1 hl2 hcn
      have HHK := Lib.hid hHk; clear hHk
      obtain ⟨Lb, hLb⟩ : ∃ Lb, Hk.by_.length = Lb := ⟨_, rfl⟩
      have hLh : Hk.hv.length = Lb := by have := HLX.out; omega
      have hL3 : o + s.size ≤ Lb := by have := HLX.out; omega
      have hc4 : 0 ≤ Hk.cnt ∧ Hk.cnt ≤ 8000 := by have := HCX.out; have := HJ.out; omega
      obtain ⟨C, hC⟩ : ∃ C, Hk.cnt = C := ⟨_, rfl⟩
      rw [hC] at hc4
      have Hh := Lib.hid HS1.out.half.1
      have qh2 := (cell_of_block (k := 2) Hh.out rfl).1; have qh3 := (cell_of_block (k := 3) Hh.out rfl).1
      have hSb := HS1.out.half.2.1; have hSh := HS1.out.half.2.2
      rw [hLb] at qh2; rw [hLh] at qh3
      have HLB := Lib.hid hLb; have HLH := Lib.hid hLh; have HC := Lib.hid hC
      clear hl1 hl2 hcn hLb hLh hC Hh
      by_cases hlt2 : j < o + s.size
      · obtain ⟨gb, rfl⟩ := hSb.addr (by simp only [byC, List.length_map]; have := HLB.out; omega)
        obtain ⟨gh, rfl⟩ := hSh.addr (by simp only [boC, List.length_map]; have := HLH.out; omega)
        have e1 : Hk.hv[j]? = some (Hk.hv[j]'(by have := HLH.out; omega)) := List.getElem?_eq_getElem _
        obtain ⟨y, hy⟩ : ∃ y, Hk.hv[j]? = some y := ⟨_, e1⟩
        clear e1
        have c2 := (hSh.cell (k := j) (u := .bool y) (by simp [boC, hy])).1
        have c2f := (hSh.cell (k := j) (u := .bool y) (by simp [boC, hy])).2
        have HY := Lib.hid hy; clear hy hSh hSb
        have j0 : (0 : Int) ≤ (j : Int) := by omega
        have j2 : (j : Int) < (Lb : Int) := by omega
        have j3 : decide ((j : Int) < (o : Int) + (s.size : Int)) = true := by simp; omega
        cases y with
        | true =>
          go_wp2_with fail
          refine ⟨⟨j + 1, by omega, by omega, by go_num, ?_, HP1.out⟩, by simp [intOf]; omega⟩
          rw [show j + 1 - o = k + 1 by have := HJ.out; omega]
          show HSt S w wr hb (laySet (layN s o Hx k) (o + k) _) _ _ _ _
          rw [HHK.out, laySet_there (by rw [← HJ.out]; exact HY.out)]
          exact HS1.out
        | false =>
          go_upto_region 11 with fail
          have HS2 := Lib.hid (HS1.out.setHv (k := j) true)
          have HP2 := Lib.hid (block_set_other (a := ⟨gh, j, none⟩) (u := .bool true) HP1.out (by have := HNX.out; intro q; exact this (.inr (.inr ⟨_, rfl, q⟩))))
          clear HS1 HP1 qh2 qh3 c2 c2f
          generalize wr.setCell ⟨gh, j, none⟩ (.bool true) = w1 at *
          have Hh := Lib.hid HS2.out.half.1
          have qh2 := (cell_of_block (k := 2) Hh.out rfl).1
          have qp7 := (cell_of_block (k := 7) HP2.out rfl).1; have qp8 := (cell_of_block (k := 8) HP2.out rfl).1
          have hx : Hk.by_[j]? = some (Hk.by_[j]'(by have := HLB.out; omega)) := List.getElem?_eq_getElem _
          have c1 := (HS2.out.half.2.1.cell (k := j) (u := .int .u8 ((Hk.by_[j]'(by have := HLB.out; omega)).toNat : Int)) (by simp [byC, hx]))
          obtain ⟨c1, c1f⟩ := c1
          generalize (Hk.by_[j]'(by have := HLB.out; omega)) = x0 at *
          have qh2' : w1.cell? ⟨hb, 2, none⟩ = some (.slice (some ⟨gb, 0, none⟩) Lb cx) := by rw [← HLB.out]; exact qh2
          clear qh2 Hh hx
          have hks : k < s.size := by have := HJ.out; omega
          have w9 : IntKind.i64.wrap ((j : Int) - (o : Int)) = (k : Int) := by rw [show (j : Int) - (o : Int) = (k : Int) by have := HJ.out; omega]; exact IntWalk.i64_in _ (by omega)
          have k2 : (0 : Int) ≤ (k : Int) := by omega
          have k3 : (k : Int) < (s.size : Int) := by omega
          go_still_tail 13, (by kernel_rfl)
          change wpList _ _ _ _ _ w1.drew
          have HS3 := Lib.hid HS2.out.drew
          have HP3 : Hid (w1.drew.heap[w.heap.size]? = some _) := Lib.hid HP2.out
          have d1 : w1.drew.cell? ⟨gb, j, none⟩ = some (.int .u8 (x0.toNat : Int)) := c1
          have d2 : w1.drew.frozen? ⟨gb, j, none⟩ = false := c1f
          clear c1 c1f qh2' HS2 HP2 qp7 qp8
          generalize w1.drew = w2 at *
          go_upto_region 12 with fail
          have HS4 := Lib.hid (HS3.out.setBy (k := j) s[k])
          have HP4 := Lib.hid (block_set_other (a := ⟨gb, j, none⟩) (u := .int .u8 ((s[k]).toNat : Int)) HP3.out (by have := HNX.out; intro q; exact this (.inr (.inl ⟨_, rfl, q⟩))))
          clear d1 d2 HS3 HP3
          generalize hw4 : w2.setCell ⟨gb, j, none⟩ (.int .u8 ((s[k]).toNat : Int)) = w4 at *
          clear hw4
          have Hh := Lib.hid HS4.out.half.1
          have qh4 := (cell_of_block (k := 4) Hh.out rfl).1; have zh4 := (cell_of_block (k := 4) Hh.out rfl).2
          have qh4' : w4.cell? ⟨hb, 4, none⟩ = some (.int .i64 C) := by rw [← HC.out]; exact qh4
          clear qh4
          go_wp2_with fail
          have HS5 := HS4.out.field (only_set (World.grownBy.refl w4 (some hb)) (.inl rfl) (.int .i64 (C + 1)) (p := ⟨hb, 4, none⟩)) { Hk with hv := Hk.hv.set j true, by_ := Hk.by_.set j s[k], cnt := Hk.cnt + 1 } (by rw [block_setCell (k := 4) (v := .int .i64 (C + 1)) Hh.out, HC.out]; simp) rfl rfl
          refine ⟨⟨j + 1, by omega, by omega, by go_num, ?_, block_set_other HP4.out (by show hb ≠ w.heap.size; omega)⟩, by simp [intOf]; omega⟩
          rw [show j + 1 - o = k + 1 by have := HJ.out; omega]
          show HSt S w _ hb (laySet (layN s o Hx k) (o + k) _) _ _ _ _
          rw [HHK.out, laySet_new (by rw [← HJ.out]; exact HY.out), getD_lt s k hks, ← HJ.out]
          exact HS5
      · obtain rfl : j = o + s.size := by omega
        have hks : k = s.size := by have := HJ.out; omega
        have j3 : decide (((o + s.size : Nat) : Int) < (o : Int) + (s.size : Int)) = false := by simp
        subst hks
        have qp6 := (cell_of_block (k := 6) HP1.out rfl).1; have qp7 := (cell_of_block (k := 7) HP1.out rfl).1
        have Hh := Lib.hid HS1.out.half.1
        have qh5 := (cell_of_block (k := 5) Hh.out rfl).1; have zh5 := (cell_of_block (k := 5) Hh.out rfl).2
        have qh6 := (cell_of_block (k := 6) Hh.out rfl).1; have zh6 := (cell_of_block (k := 6) Hh.out rfl).2
        clear qh2 qh3 hSb hSh hc4 hL3
        cases mf
        · go_upto_region 15 with fail
          have HS5 := HS1.out.field (only_set (only_set (World.grownBy.refl wr (some hb)) (.inl rfl) (.bool true) (p := ⟨hb, 5, none⟩)) (.inl rfl) (.int .i64 ((o : Int) + (s.size : Int))) (p := ⟨hb, 6, none⟩)) { Hk with ended := true, en := (o : Int) + (s.size : Int) } (by rw [block_setCell (k := 6) (v := .int .i64 ((o : Int) + (s.size : Int))) (block_setCell (k := 5) (v := .bool true) Hh.out)]; simp) rfl rfl
          obtain ⟨He, hHe⟩ : ∃ He, endF Hk (⟨f, t, pr, ttl, id, df, false, (o : Int), s⟩ : Pk) = He := ⟨_, rfl⟩
          have HE : Hid (HSt S w ((wr.setCell ⟨hb, 5, none⟩ (.bool true)).setCell ⟨hb, 6, none⟩ (.int .i64 ((o : Int) + (s.size : Int)))) hb He Ax cx Bx dx) := Lib.hid (hHe ▸ HS5)
          have HQ := Lib.hid (block_set_other (a := ⟨hb, 6, none⟩) (u := .int .i64 ((o : Int) + (s.size : Int))) (block_set_other (a := ⟨hb, 5, none⟩) (u := .bool true) HP1.out (by show hb ≠ w.heap.size; omega)) (by show hb ≠ w.heap.size; omega))
          have HED := Lib.hid hHe
          clear HS5 hHe HS1 HP1 Hh qp6 qp7 qh5 zh5 qh6 zh6
          generalize (wr.setCell ⟨hb, 5, none⟩ (.bool true)).setCell ⟨hb, 6, none⟩ (.int .i64 ((o : Int) + (s.size : Int))) = we at *
          have Hh := Lib.hid HE.out.half.1
          have qh7 := (cell_of_block (k := 7) Hh.out rfl).1; have zh7 := (cell_of_block (k := 7) Hh.out rfl).2
          have qp7 := (cell_of_block (k := 7) HQ.out rfl).1
          obtain ⟨St, hSt⟩ : ∃ b, He.started = b := ⟨_, rfl⟩
          rw [hSt] at qh7
          have HST := Lib.hid hSt; clear hSt
          have HRES : Hid (firstF (endF (layN s o Hx s.size) (⟨f, t, pr, ttl, id, df, false, (o : Int), s⟩ : Pk)) (⟨f, t, pr, ttl, id, df, false, (o : Int), s⟩ : Pk) = firstF He (⟨f, t, pr, ttl, id, df, false, (o : Int), s⟩ : Pk)) := Lib.hid (by rw [HHK.out, HED.out])
          by_cases ho : o = 0
          · have t0 : ((o : Int) == 0) = true := by simp; omega
            have HO := Lib.hid ho; clear ho
            cases St with
            | true =>
              go_wp2_with fail
              go_end0
              refine ⟨rfl, Ax, cx, Bx, dx, ?_⟩
              rw [HRES.out, show firstF He (⟨f, t, pr, ttl, id, df, false, (o : Int), s⟩ : Pk) = He by unfold firstF; rw [if_neg (by rw [HST.out]; simp)]]
              exact HE.out
            | false =>
              go_upto_region 16 with fail
              have qh7 := (cell_of_block (k := 7) Hh.out rfl).1; have zh7 := (cell_of_block (k := 7) Hh.out rfl).2; have qh8 := (cell_of_block (k := 8) Hh.out rfl).1; have zh8 := (cell_of_block (k := 8) Hh.out rfl).2; have qh9 := (cell_of_block (k := 9) Hh.out rfl).1; have zh9 := (cell_of_block (k := 9) Hh.out rfl).2; have qh10 := (cell_of_block (k := 10) Hh.out rfl).1; have zh10 := (cell_of_block (k := 10) Hh.out rfl).2; have qh11 := (cell_of_block (k := 11) Hh.out rfl).1; have zh11 := (cell_of_block (k := 11) Hh.out rfl).2; have qh12 := (cell_of_block (k := 12) Hh.out rfl).1; have zh12 := (cell_of_block (k := 12) Hh.out rfl).2; have qh13 := (cell_of_block (k := 13) Hh.out rfl).1; have zh13 := (cell_of_block (k := 13) Hh.out rfl).2; have qh14 := (cell_of_block (k := 14) Hh.out rfl).1; have zh14 := (cell_of_block (k := 14) Hh.out rfl).2; have qh15 := (cell_of_block (k := 15) Hh.out rfl).1; have zh15 := (cell_of_block (k := 15) Hh.out rfl).2; have qh16 := (cell_of_block (k := 16) Hh.out rfl).1; have zh16 := (cell_of_block (k := 16) Hh.out rfl).2; have lt_h := blk_lt Hh.out
              have qp0 := (cell_of_block (k := 0) HQ.out rfl).1; have qp1 := (cell_of_block (k := 1) HQ.out rfl).1; have qp2 := (cell_of_block (k := 2) HQ.out rfl).1; have qp3 := (cell_of_block (k := 3) HQ.out rfl).1; have qp4 := (cell_of_block (k := 4) HQ.out rfl).1; have qp5 := (cell_of_block (k := 5) HQ.out rfl).1; have qp6 := (cell_of_block (k := 6) HQ.out rfl).1; have qp8 := (cell_of_block (k := 8) HQ.out rfl).1
              go_region
              all_goals (go_end0)
              all_goals
                refine ⟨rfl, Ax, cx, Bx, dx, ?_⟩
                rw [HRES.out, show firstF He (⟨f, t, pr, ttl, id, df, false, (o : Int), s⟩ : Pk) = { He with started := true, first := (⟨f, t, pr, ttl, id, df, false, (o : Int), s⟩ : Pk) } by unfold firstF; rw [if_pos ⟨by show (o : Int) = 0; rw [HO.out]; rfl, HST.out⟩]]
              · exact HE.out.first1 (⟨f, t, pr, ttl, id, df, false, (o : Int), s⟩ : Pk)
          · have t0 : ((o : Int) == 0) = false := by simp; omega
            have HO := Lib.hid ho; clear ho
            go_wp2_with fail
            go_end0
            refine ⟨rfl, Ax, cx, Bx, dx, ?_⟩
            rw [HRES.out, show firstF He (⟨f, t, pr, ttl, id, df, false, (o : Int), s⟩ : Pk) = He by unfold firstF; rw [if_neg (by rintro ⟨q, -⟩; have := HO.out; exact this (Int.ofNat_eq_zero.1 q))]]
            exact HE.out
        · go_upto_region 15 with fail
          obtain ⟨He, hHe⟩ : ∃ He, endF Hk (⟨f, t, pr, ttl, id, df, true, (o : Int), s⟩ : Pk) = He := ⟨_, rfl⟩
          have HE : Hid (HSt S w wr hb He Ax cx Bx dx) := Lib.hid (hHe ▸ HS1.out)
          have HQ := HP1
          have HED := Lib.hid hHe
          clear hHe HS1 HP1 Hh qp6 qp7 qh5 zh5 qh6 zh6
          have Hh := Lib.hid HE.out.half.1
          have qh7 := (cell_of_block (k := 7) Hh.out rfl).1; have zh7 := (cell_of_block (k := 7) Hh.out rfl).2
          have qp7 := (cell_of_block (k := 7) HQ.out rfl).1
          obtain ⟨St, hSt⟩ : ∃ b, He.started = b := ⟨_, rfl⟩
          rw [hSt] at qh7
          have HST := Lib.hid hSt; clear hSt
          have HRES : Hid (firstF (endF (layN s o Hx s.size) (⟨f, t, pr, ttl, id, df, true, (o : Int), s⟩ : Pk)) (⟨f, t, pr, ttl, id, df, true, (o : Int), s⟩ : Pk) = firstF He (⟨f, t, pr, ttl, id, df, true, (o : Int), s⟩ : Pk)) := Lib.hid (by rw [HHK.out, HED.out])
          by_cases ho : o = 0
          · have t0 : ((o : Int) == 0) = true := by simp; omega
            have HO := Lib.hid ho; clear ho
            cases St with
            | true =>
              go_wp2_with fail
              go_end0
              refine ⟨rfl, Ax, cx, Bx, dx, ?_⟩
              rw [HRES.out, show firstF He (⟨f, t, pr, ttl, id, df, true, (o : Int), s⟩ : Pk) = He by unfold firstF; rw [if_neg (by rw [HST.out]; simp)]]
              exact HE.out
            | false =>
              go_upto_region 16 with fail
              have qh7 := (cell_of_block (k := 7) Hh.out rfl).1; have zh7 := (cell_of_block (k := 7) Hh.out rfl).2; have qh8 := (cell_of_block (k := 8) Hh.out rfl).1; have zh8 := (cell_of_block (k := 8) Hh.out rfl).2; have qh9 := (cell_of_block (k := 9) Hh.out rfl).1; have zh9 := (cell_of_block (k := 9) Hh.out rfl).2; have qh10 := (cell_of_block (k := 10) Hh.out rfl).1; have zh10 := (cell_of_block (k := 10) Hh.out rfl).2; have qh11 := (cell_of_block (k := 11) Hh.out rfl).1; have zh11 := (cell_of_block (k := 11) Hh.out rfl).2; have qh12 := (cell_of_block (k := 12) Hh.out rfl).1; have zh12 := (cell_of_block (k := 12) Hh.out rfl).2; have qh13 := (cell_of_block (k := 13) Hh.out rfl).1; have zh13 := (cell_of_block (k := 13) Hh.out rfl).2; have qh14 := (cell_of_block (k := 14) Hh.out rfl).1; have zh14 := (cell_of_block (k := 14) Hh.out rfl).2; have qh15 := (cell_of_block (k := 15) Hh.out rfl).1; have zh15 := (cell_of_block (k := 15) Hh.out rfl).2; have qh16 := (cell_of_block (k := 16) Hh.out rfl).1; have zh16 := (cell_of_block (k := 16) Hh.out rfl).2; have lt_h := blk_lt Hh.out
              have qp0 := (cell_of_block (k := 0) HQ.out rfl).1; have qp1 := (cell_of_block (k := 1) HQ.out rfl).1; have qp2 := (cell_of_block (k := 2) HQ.out rfl).1; have qp3 := (cell_of_block (k := 3) HQ.out rfl).1; have qp4 := (cell_of_block (k := 4) HQ.out rfl).1; have qp5 := (cell_of_block (k := 5) HQ.out rfl).1; have qp6 := (cell_of_block (k := 6) HQ.out rfl).1; have qp8 := (cell_of_block (k := 8) HQ.out rfl).1
              go_region
              all_goals (go_end0)
              all_goals
                refine ⟨rfl, Ax, cx, Bx, dx, ?_⟩
                rw [HRES.out, show firstF He (⟨f, t, pr, ttl, id, df, true, (o : Int), s⟩ : Pk) = { He with started := true, first := (⟨f, t, pr, ttl, id, df, true, (o : Int), s⟩ : Pk) } by unfold firstF; rw [if_pos ⟨by show (o : Int) = 0; rw [HO.out]; rfl, HST.out⟩]]
              · exact HE.out.first1 (⟨f, t, pr, ttl, id, df, true, (o : Int), s⟩ : Pk)
          · have t0 : ((o : Int) == 0) = false := by simp; omega
            have HO := Lib.hid ho; clear ho
            go_wp2_with fail
            go_end0
            refine ⟨rfl, Ax, cx, Bx, dx, ?_⟩
            rw [HRES.out, show firstF He (⟨f, t, pr, ttl, id, df, true, (o : Int), s⟩ : Pk) = He by unfold firstF; rw [if_neg (by rintro ⟨q, -⟩; have := HO.out; exact this (Int.ofNat_eq_zero.1 q))]]
            exact HE.out
  · have Hh := Lib.hid HS.out.half.1
    have qh2 := (cell_of_block (k := 2) Hh.out rfl).1
    rw [hL] at qh2
    clear hL
    have g1 : ¬ (0 < (o : Int) + (s.size : Int) - (L : Int)) := by omega
    go_wp2_with fail
    have HGX : Hid (growF H (o + s.size) = H) := Lib.hid (by unfold growF; rw [show o + s.size - H.by_.length = 0 by have := HL.out; omega]; simp)
    have HLX : Hid (o + s.size ≤ H.by_.length ∧ H.hv.length = H.by_.length) := Lib.hid ⟨by have := HL.out; omega, HLEN.out⟩
    have HNX := HN; have HCX := Lib.hid hc; have HPX := HP
    generalize hWx : w.alloc (.cells #[.int .i64 f, .int .i64 t, .int .i64 pr, .int .i64 ttl, .int .i64 id, .bool df, .bool mf, .int .i64 (o : Int), .string s] 30) = Wx at *
    generalize hHx : growF H (o + s.size) = Hx at *
    clear Hh qh2 HN HP
    have HGX' := HGX.out
    subst HGX'
    clear HGX hHx hWx HL hlen hs g1 hc HLEN
    obtain ⟨Ax, rfl⟩ : ∃ A, A = Ab := ⟨_, rfl⟩
    obtain ⟨Bx, rfl⟩ : ∃ A, A = Ah := ⟨_, rfl⟩
    obtain ⟨cx, rfl⟩ : ∃ A, A = cb := ⟨_, rfl⟩
    obtain ⟨dx, rfl⟩ : ∃ A, A = ch := ⟨_, rfl⟩
    go_loopw [6] (fun i wr => ∃ j : Nat, o ≤ j ∧ j ≤ o + s.size ∧ i = .int .i64 (j : Int) ∧ HSt S w wr hb (layN s o Hx (j - o)) Ax cx Bx dx ∧ wr.heap[w.heap.size]? = some (.cells #[.int .i64 f, .int .i64 t, .int .i64 pr, .int .i64 ttl, .int .i64 id, .bool df, .bool mf, .int .i64 (o : Int), .string s] 30)) (fun i _ => ((o : Int) + s.size - intOf i).toNat)
    case atStart => exact ⟨o, by omega, by omega, rfl, by rw [Nat.sub_self]; exact HS.out, HPX.out⟩
    case round =>
      obtain ⟨j, hj1, hj2, rfl, hS1, hP1⟩ := hrel
      have HS1 := Lib.hid hS1; have HP1 := Lib.hid hP1; clear hS1 hP1 HS HPX
      obtain ⟨k, hk⟩ : ∃ k, j = o + k := ⟨j - o, by omega⟩
      have hjk : j - o = k := by omega
      rw [hjk] at HS1
      have HJ := Lib.hid hk; have HJK := Lib.hid hjk; clear hk hjk
      obtain ⟨Hk, hHk⟩ : ∃ Hk, layN s o Hx k = Hk := ⟨_, rfl⟩
      have hl1 := (layN_len s o Hx k).1; have hl2 := (layN_len s o Hx k).2
      have hcn := layN_cnt s o Hx k
      rw [hHk] at HS1 hl1 hl2 hcn
      have HHK := Lib.hid hHk; clear hHk
      obtain ⟨Lb, hLb⟩ : ∃ Lb, Hk.by_.length = Lb := ⟨_, rfl⟩
      have hLh : Hk.hv.length = Lb := by have := HLX.out; omega
      have hL3 : o + s.size ≤ Lb := by have := HLX.out; omega
      have hc4 : 0 ≤ Hk.cnt ∧ Hk.cnt ≤ 8000 := by have := HCX.out; have := HJ.out; omega
      obtain ⟨C, hC⟩ : ∃ C, Hk.cnt = C := ⟨_, rfl⟩
      rw [hC] at hc4
      have Hh := Lib.hid HS1.out.half.1
      have qh2 := (cell_of_block (k := 2) Hh.out rfl).1; have qh3 := (cell_of_block (k := 3) Hh.out rfl).1
      have hSb := HS1.out.half.2.1; have hSh := HS1.out.half.2.2
      rw [hLb] at qh2; rw [hLh] at qh3
      have HLB := Lib.hid hLb; have HLH := Lib.hid hLh; have HC := Lib.hid hC
      clear hl1 hl2 hcn hLb hLh hC Hh
      by_cases hlt2 : j < o + s.size
      · obtain ⟨gb, rfl⟩ := hSb.addr (by simp only [byC, List.length_map]; have := HLB.out; omega)
        obtain ⟨gh, rfl⟩ := hSh.addr (by simp only [boC, List.length_map]; have := HLH.out; omega)
        have e1 : Hk.hv[j]? = some (Hk.hv[j]'(by have := HLH.out; omega)) := List.getElem?_eq_getElem _
        obtain ⟨y, hy⟩ : ∃ y, Hk.hv[j]? = some y := ⟨_, e1⟩
        clear e1
        have c2 := (hSh.cell (k := j) (u := .bool y) (by simp [boC, hy])).1
        have c2f := (hSh.cell (k := j) (u := .bool y) (by simp [boC, hy])).2
        have HY := Lib.hid hy; clear hy hSh hSb
        have j0 : (0 : Int) ≤ (j : Int) := by omega
        have j2 : (j : Int) < (Lb : Int) := by omega
        have j3 : decide ((j : Int) < (o : Int) + (s.size : Int)) = true := by simp; omega
        cases y with
        | true =>
          go_wp2_with fail
          refine ⟨⟨j + 1, by omega, by omega, by go_num, ?_, HP1.out⟩, by simp [intOf]; omega⟩
          rw [show j + 1 - o = k + 1 by have := HJ.out; omega]
          show HSt S w wr hb (laySet (layN s o Hx k) (o + k) _) _ _ _ _
          rw [HHK.out, laySet_there (by rw [← HJ.out]; exact HY.out)]
          exact HS1.out
        | false =>
          go_upto_region 11 with fail
          have HS2 := Lib.hid (HS1.out.setHv (k := j) true)
          have HP2 := Lib.hid (block_set_other (a := ⟨gh, j, none⟩) (u := .bool true) HP1.out (by have := HNX.out; intro q; exact this (.inr (.inr ⟨_, rfl, q⟩))))
          clear HS1 HP1 qh2 qh3 c2 c2f
          generalize wr.setCell ⟨gh, j, none⟩ (.bool true) = w1 at *
          have Hh := Lib.hid HS2.out.half.1
          have qh2 := (cell_of_block (k := 2) Hh.out rfl).1
          have qp7 := (cell_of_block (k := 7) HP2.out rfl).1; have qp8 := (cell_of_block (k := 8) HP2.out rfl).1
          have hx : Hk.by_[j]? = some (Hk.by_[j]'(by have := HLB.out; omega)) := List.getElem?_eq_getElem _
          have c1 := (HS2.out.half.2.1.cell (k := j) (u := .int .u8 ((Hk.by_[j]'(by have := HLB.out; omega)).toNat : Int)) (by simp [byC, hx]))
          obtain ⟨c1, c1f⟩ := c1
          generalize (Hk.by_[j]'(by have := HLB.out; omega)) = x0 at *
          have qh2' : w1.cell? ⟨hb, 2, none⟩ = some (.slice (some ⟨gb, 0, none⟩) Lb cx) := by rw [← HLB.out]; exact qh2
          clear qh2 Hh hx
          have hks : k < s.size := by have := HJ.out; omega
          have w9 : IntKind.i64.wrap ((j : Int) - (o : Int)) = (k : Int) := by rw [show (j : Int) - (o : Int) = (k : Int) by have := HJ.out; omega]; exact IntWalk.i64_in _ (by omega)
          have k2 : (0 : Int) ≤ (k : Int) := by omega
          have k3 : (k : Int) < (s.size : Int) := by omega
          go_still_tail 13, (by kernel_rfl)
          change wpList _ _ _ _ _ w1.drew
          have HS3 := Lib.hid HS2.out.drew
          have HP3 : Hid (w1.drew.heap[w.heap.size]? = some _) := Lib.hid HP2.out
          have d1 : w1.drew.cell? ⟨gb, j, none⟩ = some (.int .u8 (x0.toNat : Int)) := c1
          have d2 : w1.drew.frozen? ⟨gb, j, none⟩ = false := c1f
          clear c1 c1f qh2' HS2 HP2 qp7 qp8
          generalize w1.drew = w2 at *
          go_upto_region 12 with fail
          have HS4 := Lib.hid (HS3.out.setBy (k := j) s[k])
          have HP4 := Lib.hid (block_set_other (a := ⟨gb, j, none⟩) (u := .int .u8 ((s[k]).toNat : Int)) HP3.out (by have := HNX.out; intro q; exact this (.inr (.inl ⟨_, rfl, q⟩))))
          clear d1 d2 HS3 HP3
          generalize hw4 : w2.setCell ⟨gb, j, none⟩ (.int .u8 ((s[k]).toNat : Int)) = w4 at *
          clear hw4
          have Hh := Lib.hid HS4.out.half.1
          have qh4 := (cell_of_block (k := 4) Hh.out rfl).1; have zh4 := (cell_of_block (k := 4) Hh.out rfl).2
          have qh4' : w4.cell? ⟨hb, 4, none⟩ = some (.int .i64 C) := by rw [← HC.out]; exact qh4
          clear qh4
          go_wp2_with fail
          have HS5 := HS4.out.field (only_set (World.grownBy.refl w4 (some hb)) (.inl rfl) (.int .i64 (C + 1)) (p := ⟨hb, 4, none⟩)) { Hk with hv := Hk.hv.set j true, by_ := Hk.by_.set j s[k], cnt := Hk.cnt + 1 } (by rw [block_setCell (k := 4) (v := .int .i64 (C + 1)) Hh.out, HC.out]; simp) rfl rfl
          refine ⟨⟨j + 1, by omega, by omega, by go_num, ?_, block_set_other HP4.out (by show hb ≠ w.heap.size; omega)⟩, by simp [intOf]; omega⟩
          rw [show j + 1 - o = k + 1 by have := HJ.out; omega]
          show HSt S w _ hb (laySet (layN s o Hx k) (o + k) _) _ _ _ _
          rw [HHK.out, laySet_new (by rw [← HJ.out]; exact HY.out), getD_lt s k hks, ← HJ.out]
          exact HS5
      · obtain rfl : j = o + s.size := by omega
        have hks : k = s.size := by have := HJ.out; omega
        have j3 : decide (((o + s.size : Nat) : Int) < (o : Int) + (s.size : Int)) = false := by simp
        subst hks
        have qp6 := (cell_of_block (k := 6) HP1.out rfl).1; have qp7 := (cell_of_block (k := 7) HP1.out rfl).1
        have Hh := Lib.hid HS1.out.half.1
        have qh5 := (cell_of_block (k := 5) Hh.out rfl).1; have zh5 := (cell_of_block (k := 5) Hh.out rfl).2
        have qh6 := (cell_of_block (k := 6) Hh.out rfl).1; have zh6 := (cell_of_block (k := 6) Hh.out rfl).2
        clear qh2 qh3 hSb hSh hc4 hL3
        cases mf
        · go_upto_region 15 with fail
          have HS5 := HS1.out.field (only_set (only_set (World.grownBy.refl wr (some hb)) (.inl rfl) (.bool true) (p := ⟨hb, 5, none⟩)) (.inl rfl) (.int .i64 ((o : Int) + (s.size : Int))) (p := ⟨hb, 6, none⟩)) { Hk with ended := true, en := (o : Int) + (s.size : Int) } (by rw [block_setCell (k := 6) (v := .int .i64 ((o : Int) + (s.size : Int))) (block_setCell (k := 5) (v := .bool true) Hh.out)]; simp) rfl rfl
          obtain ⟨He, hHe⟩ : ∃ He, endF Hk (⟨f, t, pr, ttl, id, df, false, (o : Int), s⟩ : Pk) = He := ⟨_, rfl⟩
          have HE : Hid (HSt S w ((wr.setCell ⟨hb, 5, none⟩ (.bool true)).setCell ⟨hb, 6, none⟩ (.int .i64 ((o : Int) + (s.size : Int)))) hb He Ax cx Bx dx) := Lib.hid (hHe ▸ HS5)
          have HQ := Lib.hid (block_set_other (a := ⟨hb, 6, none⟩) (u := .int .i64 ((o : Int) + (s.size : Int))) (block_set_other (a := ⟨hb, 5, none⟩) (u := .bool true) HP1.out (by show hb ≠ w.heap.size; omega)) (by show hb ≠ w.heap.size; omega))
          have HED := Lib.hid hHe
          clear HS5 hHe HS1 HP1 Hh qp6 qp7 qh5 zh5 qh6 zh6
          generalize (wr.setCell ⟨hb, 5, none⟩ (.bool true)).setCell ⟨hb, 6, none⟩ (.int .i64 ((o : Int) + (s.size : Int))) = we at *
          have Hh := Lib.hid HE.out.half.1
          have qh7 := (cell_of_block (k := 7) Hh.out rfl).1; have zh7 := (cell_of_block (k := 7) Hh.out rfl).2
          have qp7 := (cell_of_block (k := 7) HQ.out rfl).1
          obtain ⟨St, hSt⟩ : ∃ b, He.started = b := ⟨_, rfl⟩
          rw [hSt] at qh7
          have HST := Lib.hid hSt; clear hSt
          have HRES : Hid (firstF (endF (layN s o Hx s.size) (⟨f, t, pr, ttl, id, df, false, (o : Int), s⟩ : Pk)) (⟨f, t, pr, ttl, id, df, false, (o : Int), s⟩ : Pk) = firstF He (⟨f, t, pr, ttl, id, df, false, (o : Int), s⟩ : Pk)) := Lib.hid (by rw [HHK.out, HED.out])
          by_cases ho : o = 0
          · have t0 : ((o : Int) == 0) = true := by simp; omega
            have HO := Lib.hid ho; clear ho
            cases St with
            | true =>
              go_wp2_with fail
              go_end0
              refine ⟨rfl, Ax, cx, Bx, dx, ?_⟩
              rw [HRES.out, show firstF He (⟨f, t, pr, ttl, id, df, false, (o : Int), s⟩ : Pk) = He by unfold firstF; rw [if_neg (by rw [HST.out]; simp)]]
              exact HE.out
            | false =>
              go_upto_region 16 with fail
              have qh7 := (cell_of_block (k := 7) Hh.out rfl).1; have zh7 := (cell_of_block (k := 7) Hh.out rfl).2; have qh8 := (cell_of_block (k := 8) Hh.out rfl).1; have zh8 := (cell_of_block (k := 8) Hh.out rfl).2; have qh9 := (cell_of_block (k := 9) Hh.out rfl).1; have zh9 := (cell_of_block (k := 9) Hh.out rfl).2; have qh10 := (cell_of_block (k := 10) Hh.out rfl).1; have zh10 := (cell_of_block (k := 10) Hh.out rfl).2; have qh11 := (cell_of_block (k := 11) Hh.out rfl).1; have zh11 := (cell_of_block (k := 11) Hh.out rfl).2; have qh12 := (cell_of_block (k := 12) Hh.out rfl).1; have zh12 := (cell_of_block (k := 12) Hh.out rfl).2; have qh13 := (cell_of_block (k := 13) Hh.out rfl).1; have zh13 := (cell_of_block (k := 13) Hh.out rfl).2; have qh14 := (cell_of_block (k := 14) Hh.out rfl).1; have zh14 := (cell_of_block (k := 14) Hh.out rfl).2; have qh15 := (cell_of_block (k := 15) Hh.out rfl).1; have zh15 := (cell_of_block (k := 15) Hh.out rfl).2; have qh16 := (cell_of_block (k := 16) Hh.out rfl).1; have zh16 := (cell_of_block (k := 16) Hh.out rfl).2; have lt_h := blk_lt Hh.out
              have qp0 := (cell_of_block (k := 0) HQ.out rfl).1; have qp1 := (cell_of_block (k := 1) HQ.out rfl).1; have qp2 := (cell_of_block (k := 2) HQ.out rfl).1; have qp3 := (cell_of_block (k := 3) HQ.out rfl).1; have qp4 := (cell_of_block (k := 4) HQ.out rfl).1; have qp5 := (cell_of_block (k := 5) HQ.out rfl).1; have qp6 := (cell_of_block (k := 6) HQ.out rfl).1; have qp8 := (cell_of_block (k := 8) HQ.out rfl).1
              go_region
              all_goals (go_end0)
              all_goals
                refine ⟨rfl, Ax, cx, Bx, dx, ?_⟩
                rw [HRES.out, show firstF He (⟨f, t, pr, ttl, id, df, false, (o : Int), s⟩ : Pk) = { He with started := true, first := (⟨f, t, pr, ttl, id, df, false, (o : Int), s⟩ : Pk) } by unfold firstF; rw [if_pos ⟨by show (o : Int) = 0; rw [HO.out]; rfl, HST.out⟩]]
              · exact HE.out.first1 (⟨f, t, pr, ttl, id, df, false, (o : Int), s⟩ : Pk)
          · have t0 : ((o : Int) == 0) = false := by simp; omega
            have HO := Lib.hid ho; clear ho
            go_wp2_with fail
            go_end0
            refine ⟨rfl, Ax, cx, Bx, dx, ?_⟩
            rw [HRES.out, show firstF He (⟨f, t, pr, ttl, id, df, false, (o : Int), s⟩ : Pk) = He by unfold firstF; rw [if_neg (by rintro ⟨q, -⟩; have := HO.out; exact this (Int.ofNat_eq_zero.1 q))]]
            exact HE.out
        · go_upto_region 15 with fail
          obtain ⟨He, hHe⟩ : ∃ He, endF Hk (⟨f, t, pr, ttl, id, df, true, (o : Int), s⟩ : Pk) = He := ⟨_, rfl⟩
          have HE : Hid (HSt S w wr hb He Ax cx Bx dx) := Lib.hid (hHe ▸ HS1.out)
          have HQ := HP1
          have HED := Lib.hid hHe
          clear hHe HS1 HP1 Hh qp6 qp7 qh5 zh5 qh6 zh6
          have Hh := Lib.hid HE.out.half.1
          have qh7 := (cell_of_block (k := 7) Hh.out rfl).1; have zh7 := (cell_of_block (k := 7) Hh.out rfl).2
          have qp7 := (cell_of_block (k := 7) HQ.out rfl).1
          obtain ⟨St, hSt⟩ : ∃ b, He.started = b := ⟨_, rfl⟩
          rw [hSt] at qh7
          have HST := Lib.hid hSt; clear hSt
          have HRES : Hid (firstF (endF (layN s o Hx s.size) (⟨f, t, pr, ttl, id, df, true, (o : Int), s⟩ : Pk)) (⟨f, t, pr, ttl, id, df, true, (o : Int), s⟩ : Pk) = firstF He (⟨f, t, pr, ttl, id, df, true, (o : Int), s⟩ : Pk)) := Lib.hid (by rw [HHK.out, HED.out])
          by_cases ho : o = 0
          · have t0 : ((o : Int) == 0) = true := by simp; omega
            have HO := Lib.hid ho; clear ho
            cases St with
            | true =>
              go_wp2_with fail
              go_end0
              refine ⟨rfl, Ax, cx, Bx, dx, ?_⟩
              rw [HRES.out, show firstF He (⟨f, t, pr, ttl, id, df, true, (o : Int), s⟩ : Pk) = He by unfold firstF; rw [if_neg (by rw [HST.out]; simp)]]
              exact HE.out
            | false =>
              go_upto_region 16 with fail
              have qh7 := (cell_of_block (k := 7) Hh.out rfl).1; have zh7 := (cell_of_block (k := 7) Hh.out rfl).2; have qh8 := (cell_of_block (k := 8) Hh.out rfl).1; have zh8 := (cell_of_block (k := 8) Hh.out rfl).2; have qh9 := (cell_of_block (k := 9) Hh.out rfl).1; have zh9 := (cell_of_block (k := 9) Hh.out rfl).2; have qh10 := (cell_of_block (k := 10) Hh.out rfl).1; have zh10 := (cell_of_block (k := 10) Hh.out rfl).2; have qh11 := (cell_of_block (k := 11) Hh.out rfl).1; have zh11 := (cell_of_block (k := 11) Hh.out rfl).2; have qh12 := (cell_of_block (k := 12) Hh.out rfl).1; have zh12 := (cell_of_block (k := 12) Hh.out rfl).2; have qh13 := (cell_of_block (k := 13) Hh.out rfl).1; have zh13 := (cell_of_block (k := 13) Hh.out rfl).2; have qh14 := (cell_of_block (k := 14) Hh.out rfl).1; have zh14 := (cell_of_block (k := 14) Hh.out rfl).2; have qh15 := (cell_of_block (k := 15) Hh.out rfl).1; have zh15 := (cell_of_block (k := 15) Hh.out rfl).2; have qh16 := (cell_of_block (k := 16) Hh.out rfl).1; have zh16 := (cell_of_block (k := 16) Hh.out rfl).2; have lt_h := blk_lt Hh.out
              have qp0 := (cell_of_block (k := 0) HQ.out rfl).1; have qp1 := (cell_of_block (k := 1) HQ.out rfl).1; have qp2 := (cell_of_block (k := 2) HQ.out rfl).1; have qp3 := (cell_of_block (k := 3) HQ.out rfl).1; have qp4 := (cell_of_block (k := 4) HQ.out rfl).1; have qp5 := (cell_of_block (k := 5) HQ.out rfl).1; have qp6 := (cell_of_block (k := 6) HQ.out rfl).1; have qp8 := (cell_of_block (k := 8) HQ.out rfl).1
              go_region
              all_goals (go_end0)
              all_goals
                refine ⟨rfl, Ax, cx, Bx, dx, ?_⟩
                rw [HRES.out, show firstF He (⟨f, t, pr, ttl, id, df, true, (o : Int), s⟩ : Pk) = { He with started := true, first := (⟨f, t, pr, ttl, id, df, true, (o : Int), s⟩ : Pk) } by unfold firstF; rw [if_pos ⟨by show (o : Int) = 0; rw [HO.out]; rfl, HST.out⟩]]
              · exact HE.out.first1 (⟨f, t, pr, ttl, id, df, true, (o : Int), s⟩ : Pk)
          · have t0 : ((o : Int) == 0) = false := by simp; omega
            have HO := Lib.hid ho; clear ho
            go_wp2_with fail
            go_end0
            refine ⟨rfl, Ax, cx, Bx, dx, ?_⟩
            rw [HRES.out, show firstF He (⟨f, t, pr, ttl, id, df, true, (o : Int), s⟩ : Pk) = He by unfold firstF; rw [if_neg (by rintro ⟨q, -⟩; have := HO.out; exact this (Int.ofNat_eq_zero.1 q))]]
            exact HE.out
theorem store_any (H : Hf) (p : Pk) (hb : Nat) (Ab : Option Addr) (cb : Nat) (Ah : Option Addr) (ch : Nat) (w : World) (S : Nat → Prop) (hH : HalfB w hb H Ab cb Ah ch) (hd : Dis hb Ab Ah) (hS : ∀ k, In3 hb Ab Ah k → S k) (hSl : ∀ k, S k → k < w.heap.size)
    (hlen : H.hv.length = H.by_.length) (h0 : 0 ≤ p.off) (hm : p.off + p.s.size ≤ 4000) (hs : H.by_.length ≤ 4000) (hc : 0 ≤ H.cnt ∧ H.cnt ≤ 4000) :
    Calls Try.prog 37 #[.pointer (some ⟨hb, 0, none⟩), .agg #[.int .i64 p.f, .int .i64 p.t, .int .i64 p.pr, .int .i64 p.ttl, .int .i64 p.id, .bool p.df, .bool p.mf, .int .i64 p.off, .string p.s]] w (StorePost S w hb (storeF H p)) := by
  obtain ⟨f, t, pr, ttl, id, df, mf, off, s⟩ := p
  obtain ⟨o, rfl⟩ := Int.eq_ofNat_of_zero_le (show 0 ≤ off from h0)
  exact store_aux H f t pr ttl id df mf o s hb Ab cb Ah ch w S hH hd hS hSl hlen (by have : (o : Int) + s.size ≤ 4000 := hm; omega) hs hc
end Go.Proofs.Ytmeldgnjgogacaa.Re
