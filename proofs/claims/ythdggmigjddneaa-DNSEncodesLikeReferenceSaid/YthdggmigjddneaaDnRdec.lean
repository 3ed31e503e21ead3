/-
  The contract of the reference's Decode.
-/
import Derived.Test.YthdggmigjddneaaDnRname
import Derived.Test.YthdggmigjddneaaDnRen2
import Derived.Test.YthdggmigjddneaaDnDec
namespace Go.Proofs.Ythdggmigjddneaa.Dn
set_option maxRecDepth 100000
open Go.RowKit Go.Proofs.Ythdggmigjddneaa.Wire Go.Proofs.Ythdggmigjddneaa.Rw

/-- what the reading follows: if the string is a message's encoding, q holds of it, nothing is bad, and p is left -/
def Fol (s : ByteArray) (p : Msg → List UInt8) (q : Msg → Prop) (a : Nat) (b : Bool) : Prop := ∀ d, msgB d = true → enc d = s.data.toList → q d ∧ b = false ∧ restOf s a = p d
theorem Fol.start (s : ByteArray) : Fol s enc (fun _ => True) 0 false := fun d _ h => ⟨trivial, rfl, by rw [h]; unfold restOf; rw [List.drop_zero]⟩
theorem Fol.num {s : ByteArray} {p : Msg → List UInt8} {q : Msg → Prop} {a a' : Nat} {b b' : Bool} (h : Fol s p q a b) (k : Nat) (n : Int) (m : Msg → Int) (X : Msg → List UInt8) (hp : ∀ d, msgB d = true → q d → p d = be k (m d) ++ X d ∧ 0 ≤ m d ∧ m d < 256 ^ k)
    (hc : rdNum k (restOf s a) = some (n, restOf s a') ∧ b' = b ∨ rdNum k (restOf s a) = none ∧ b' = true) : Fol s X (fun d => q d ∧ n = m d) a' b' := fun d hd he => by
  obtain ⟨h1, h2, h3⟩ := h d hd he
  obtain ⟨e, m0, m1⟩ := hp d hd h1
  rw [h3, e, rdNum_be k (m d) (X d) m0 m1] at hc
  rcases hc with ⟨h4, h5⟩ | ⟨h4, -⟩
  · simp only [Option.some.injEq, Prod.mk.injEq] at h4
    exact ⟨⟨h1, h4.1.symm⟩, by rw [h5, h2], h4.2.symm⟩
  · cases h4
theorem Fol.name {s : ByteArray} {p : Msg → List UInt8} {q : Msg → Prop} {a a' : Nat} {b b' : Bool} {A : List UInt8} (h : Fol s p q a b) (x : Msg → List UInt8) (X : Msg → List UInt8) (hp : ∀ d, msgB d = true → q d → p d = encName (x d) ++ X d ∧ nameB (x d) = true)
    (hc : NmE s a b ⟨A.toArray⟩ a' b') : Fol s X (fun d => q d ∧ A = x d) a' b' := fun d hd he => by
  obtain ⟨h1, h2, h3⟩ := h d hd he
  obtain ⟨e, hn⟩ := hp d hd h1
  obtain ⟨h4, h5, h6⟩ := hc.2 h2 (x d) (X d) (name_len hn) (by rw [h3, e]; exact rdName_enc _ _ _ (by omega) hn)
  exact ⟨⟨h1, h4⟩, h5, h6.symm⟩
theorem Fol.mono {s : ByteArray} {p p' : Msg → List UInt8} {q q' : Msg → Prop} {a : Nat} {b : Bool} (h : Fol s p q a b) (hq : ∀ d, msgB d = true → q d → q' d ∧ p d = p' d) : Fol s p' q' a b := fun d hd he => by
  obtain ⟨h1, h2, h3⟩ := h d hd he
  obtain ⟨h4, h5⟩ := hq d hd h1
  exact ⟨h4, h2, by rw [h3, h5]⟩
/-- the head of the message that was read -/
structure HdE (id an code kd n : Int) (nm : List UInt8) (d : Msg) : Prop where
  id : id = d.id
  an : (an == 1) = d.ans
  code : code = d.code
  kd : kd = d.kd
  nm : nm = d.nm
  n : n = d.recs.length
/-- the state of the loop over the records -/
def LpE (id an code kd : Int) (n : Nat) (nm : List UInt8) (k : Nat) (l : List Rec) (d : Msg) : Prop := HdE id an code kd n nm d ∧ l = d.recs.take k
def dflt : Rec := ⟨[], 0, 0, 0, []⟩
def rK (k : Nat) (d : Msg) : Rec := d.recs.getD k dflt
def tailK (k : Nat) (d : Msg) : List UInt8 := (d.recs.drop k).flatMap encRec
theorem rk_ok {d : Msg} (h : msgB d = true) {k : Nat} (hk : k < d.recs.length) : recB (rK k d) = true ∧ tailK k d = encRec (rK k d) ++ tailK (k + 1) d := by
  have e : rK k d = d.recs[k] := by unfold rK; simp [hk]
  have hall := ((msgB_iff d).1 h).2.2.2.2.1
  rw [e]
  refine ⟨List.all_eq_true.1 hall _ (List.getElem_mem hk), ?_⟩
  unfold tailK
  rw [List.drop_eq_getElem_cons hk, List.flatMap_cons]
theorem take_rk {d : Msg} {k : Nat} (hk : k < d.recs.length) : d.recs.take (k + 1) = d.recs.take k ++ [rK k d] := by
  have e : rK k d = d.recs[k] := by unfold rK; simp [hk]
  rw [e, List.take_add_one, List.getElem?_eq_getElem hk]; rfl
theorem rrname_l (B : Nat) (s : ByteArray) (a : Nat) (bad : Bool) (W : World) (hB : W.heap[B]? = some (rrO s a bad)) (hs : s.size ≤ 1000000) (ha : a ≤ s.size) :
    Calls Try.prog 39 #[.pointer (some ⟨B, 0, none⟩)] W fun e w' => (∃ (A : List UInt8) (a' : Nat) (b' : Bool), e = .returned (.string ⟨A.toArray⟩) ∧ w'.heap[B]? = some (rrO s a' b') ∧ a' ≤ s.size ∧ A.length ≤ 400 ∧ NmE s a bad ⟨A.toArray⟩ a' b') ∧ W.grownBy w' (some B) :=
  (rrname_any B s a bad W hB hs ha).mono fun e w' h => by
    obtain ⟨⟨A, a', b', h1, h2, h3, h4, h5⟩, hg⟩ := h
    obtain ⟨l, rfl⟩ : ∃ l : List UInt8, A = ⟨l.toArray⟩ := ⟨A.data.toList, ba_self A⟩
    exact ⟨⟨l, a', b', h1, h2, h3, h4, h5⟩, hg⟩
structure LI (w : World) (s : ByteArray) (bd : Nat) (id an code kd : Int) (n : Nat) (nm : List UInt8) (k : Nat) (l : List Rec) (A : Option Addr) (c a : Nat) (b : Bool) (W : World) : Prop where
  rd : W.heap[w.heap.size + 1]? = some (.cells #[.string s, .int .i64 (a : Int), .bool b] 78 (0, 0))
  le : a ≤ s.size
  z : W.heap[w.heap.size]? = some (.cells #[.int .i64 0, .bool false, .int .i64 0, .string ⟨#[]⟩, .int .i64 0, .slice none 0 0] 27 (0, 0))
  d : W.heap[bd]? = some (.cells #[.int .i64 id, .bool (an == 1), .int .i64 code, .string ⟨nm.toArray⟩, .int .i64 kd, .slice A k c] 27 (0, 0))
  row : RRow W (bd + 1) A c l
  len : l.length = k
  fits : ∀ r ∈ l, r.fits
  fol : Fol s (tailK k) (LpE id an code kd n nm k l) a b
  gr : Below w.heap.size w W
/-- the record's parts, followed -/
def x1 (k : Nat) (d : Msg) : List UInt8 := be 1 (rK k d).kd ++ (be 2 (rK k d).ttl ++ ((if (rK k d).kd = 2 then encName (rK k d).dst else be 4 (rK k d).addr) ++ tailK (k + 1) d))
def x2 (k : Nat) (d : Msg) : List UInt8 := be 2 (rK k d).ttl ++ ((if (rK k d).kd = 2 then encName (rK k d).dst else be 4 (rK k d).addr) ++ tailK (k + 1) d)
def x3 (k : Nat) (d : Msg) : List UInt8 := (if (rK k d).kd = 2 then encName (rK k d).dst else be 4 (rK k d).addr) ++ tailK (k + 1) d
theorem lp_lt {id an code kd : Int} {n : Nat} {nm : List UInt8} {k : Nat} {l : List Rec} {d : Msg} (h : LpE id an code kd n nm k l d) (hk : k < n) : k < d.recs.length := by have := h.1.n; omega
theorem fol_name {s : ByteArray} {id an code kd : Int} {n : Nat} {nm rn : List UInt8} {k : Nat} {l : List Rec} {a a' : Nat} {b b' : Bool} (h : Fol s (tailK k) (LpE id an code kd n nm k l) a b) (hk : k < n) (hc : NmE s a b ⟨rn.toArray⟩ a' b') :
    Fol s (x1 k) (fun d => LpE id an code kd n nm k l d ∧ rn = (rK k d).nm) a' b' :=
  Fol.name h (fun d => (rK k d).nm) (x1 k) (fun d hd hq => by
    obtain ⟨h1, h2⟩ := rk_ok hd (lp_lt hq hk)
    refine ⟨?_, ((recB_iff _).1 h1).1⟩
    rw [h2]; unfold encRec x1; simp only [List.append_assoc]) hc
theorem fol_kind {s : ByteArray} {q : Msg → Prop} {rk : Int} {k : Nat} {a a' : Nat} {b b' : Bool} (h : Fol s (x1 k) q a b) (hq : ∀ d, q d → k < d.recs.length) (hc : rdNum 1 (restOf s a) = some (rk, restOf s a') ∧ b' = b ∨ rdNum 1 (restOf s a) = none ∧ b' = true) :
    Fol s (x2 k) (fun d => q d ∧ rk = (rK k d).kd) a' b' :=
  Fol.num h 1 rk (fun d => (rK k d).kd) (x2 k) (fun d hd hqd => by
    have h1 := (recB_iff _).1 (rk_ok hd (hq d hqd)).1
    exact ⟨rfl, by show 0 ≤ (rK k d).kd ∧ (rK k d).kd < 256; omega⟩) hc
theorem fol_ttl {s : ByteArray} {q : Msg → Prop} {rt : Int} {k : Nat} {a a' : Nat} {b b' : Bool} (h : Fol s (x2 k) q a b) (hq : ∀ d, q d → k < d.recs.length) (hc : rdNum 2 (restOf s a) = some (rt, restOf s a') ∧ b' = b ∨ rdNum 2 (restOf s a) = none ∧ b' = true) :
    Fol s (x3 k) (fun d => q d ∧ rt = (rK k d).ttl) a' b' :=
  Fol.num h 2 rt (fun d => (rK k d).ttl) (x3 k) (fun d hd hqd => by
    have h1 := (recB_iff _).1 (rk_ok hd (hq d hqd)).1
    exact ⟨rfl, by show 0 ≤ (rK k d).ttl ∧ (rK k d).ttl < 65536; omega⟩) hc
theorem rec_ext {r : Rec} {a : List UInt8} {b c d : Int} {e : List UInt8} (h1 : a = r.nm) (h2 : b = r.kd) (h3 : c = r.ttl) (h4 : d = r.addr) (h5 : e = r.dst) : (⟨a, b, c, d, e⟩ : Rec) = r := by subst h1; subst h2; subst h3; subst h4; subst h5; rfl
theorem fol_addr {s : ByteArray} {id an code kd rk rt ra : Int} {n : Nat} {nm rn : List UInt8} {k : Nat} {l : List Rec} {a a' : Nat} {b b' : Bool} (h : Fol s (x3 k) (fun d => ((LpE id an code kd n nm k l d ∧ rn = (rK k d).nm) ∧ rk = (rK k d).kd) ∧ rt = (rK k d).ttl) a b) (hk : k < n) (h1 : rk = 1)
    (hc : rdNum 4 (restOf s a) = some (ra, restOf s a') ∧ b' = b ∨ rdNum 4 (restOf s a) = none ∧ b' = true) : Fol s (tailK (k + 1)) (LpE id an code kd n nm (k + 1) (l ++ [⟨rn, rk, rt, ra, []⟩])) a' b' :=
  (Fol.num h 4 ra (fun d => (rK k d).addr) (tailK (k + 1)) (fun d hd hq => by
    have h2 := (recB_iff _).1 (rk_ok hd (lp_lt hq.1.1.1 hk)).1
    have h3 := hq.1.2
    refine ⟨by unfold x3; rw [if_neg (by omega)], by show 0 ≤ (rK k d).addr ∧ (rK k d).addr < 4294967296; omega⟩) hc).mono fun d hd hq => by
    have hlt := lp_lt hq.1.1.1.1 hk
    have h2 := (recB_iff _).1 (rk_ok hd hlt).1
    have h3 := hq.1.1.2
    refine ⟨⟨hq.1.1.1.1.1, ?_⟩, rfl⟩
    rw [take_rk hlt, hq.1.1.1.1.2, rec_ext hq.1.1.1.2 h3 hq.1.2 hq.2]
    rcases h2.2.2 with h4 | h4
    · exact h4.2.2.symm
    · omega
theorem fol_dst {s : ByteArray} {id an code kd rk rt : Int} {n : Nat} {nm rn rdd : List UInt8} {k : Nat} {l : List Rec} {a a' : Nat} {b b' : Bool} (h : Fol s (x3 k) (fun d => ((LpE id an code kd n nm k l d ∧ rn = (rK k d).nm) ∧ rk = (rK k d).kd) ∧ rt = (rK k d).ttl) a b) (hk : k < n) (h1 : ¬ rk = 1)
    (hc : NmE s a b ⟨rdd.toArray⟩ a' b') : Fol s (tailK (k + 1)) (LpE id an code kd n nm (k + 1) (l ++ [⟨rn, rk, rt, 0, rdd⟩])) a' b' :=
  (Fol.name h (fun d => (rK k d).dst) (tailK (k + 1)) (fun d hd hq => by
    have h2 := (recB_iff _).1 (rk_ok hd (lp_lt hq.1.1.1 hk)).1
    have h3 := hq.1.2
    have h4 : (rK k d).kd = 2 := by omega
    refine ⟨by unfold x3; rw [if_pos h4], ?_⟩
    rcases h2.2.2 with h5 | h5
    · omega
    · exact h5.2.1) hc).mono fun d hd hq => by
    have hlt := lp_lt hq.1.1.1.1 hk
    have h2 := (recB_iff _).1 (rk_ok hd hlt).1
    have h3 := hq.1.1.2
    refine ⟨⟨hq.1.1.1.1.1, ?_⟩, rfl⟩
    rw [take_rk hlt, hq.1.1.1.1.2, rec_ext hq.1.1.1.2 h3 hq.1.2 ?_ hq.2]
    rcases h2.2.2 with h4 | h4
    · omega
    · exact h4.2.2.symm
theorem lp_all {id an code kd : Int} {n : Nat} {nm : List UInt8} {k : Nat} {l : List Rec} {d : Msg} (h : LpE id an code kd n nm k l d) (hk : ¬ k < n) : (⟨id, an == 1, code, nm, kd, l⟩ : Msg) = d := by
  obtain ⟨⟨h1, h2, h3, h4, h5, h6⟩, h7⟩ := h
  rw [List.take_of_length_le (by omega)] at h7
  obtain ⟨a, b, c, e, f, g⟩ := d
  dsimp only at *
  subst h1; subst h2; subst h3; subst h4; subst h5; subst h7; rfl
/-- the ending, by what was read -/
theorem fol_none {s : ByteArray} {p : Msg → List UInt8} {q : Msg → Prop} {a : Nat} {b : Bool} (h : Fol s p q a b) (hx : ∀ d, msgB d = true → enc d = s.data.toList → q d → b = false → False) : decD s.data.toList = none :=
  decD_none _ fun d hd he => by
    obtain ⟨h1, h2, -⟩ := h d hd he
    exact hx d hd he h1 h2
set_option maxHeartbeats 16000000 in
theorem rdecode_any (s : ByteArray) (w : World) (hs : s.size ≤ 1000000) :
    Calls Try.prog 22 #[.string s] w (DecPost s w) := by
  have HZ0 := Lib.hid (block_alloc (alloc_new w (.cells #[.int .i64 0, .bool false, .int .i64 0, .string ⟨#[]⟩, .int .i64 0, .slice none 0 0] 27)) (rrO s 0 false))
  have HR0 := Lib.hid (alloc_new' (w.alloc (.cells #[.int .i64 0, .bool false, .int .i64 0, .string ⟨#[]⟩, .int .i64 0, .slice none 0 0] 27)) (rrO s 0 false) (w.heap.size + 1) (by simp))
  have HB0 := Lib.hid (below_alloc (o := rrO s 0 false) (below_alloc (o := .cells #[.int .i64 0, .bool false, .int .i64 0, .string ⟨#[]⟩, .int .i64 0, .slice none 0 0] 27) (Below.refl w.heap.size w)))
  have hz0 : w.heap.size + 2 ≤ ((w.alloc (.cells #[.int .i64 0, .bool false, .int .i64 0, .string ⟨#[]⟩, .int .i64 0, .slice none 0 0] 27)).alloc (rrO s 0 false)).heap.size := by simp
  have F0 := Lib.hid (Fol.start s)
  have hlt0 : 0 ≤ s.size := Nat.zero_le _
  have HPost : Hid (∀ e w', DecPost s w e w' ↔ (Below w.heap.size w w' ∧ ((decD s.data.toList = none ∧ e = .returned (.tuple #[.agg #[.int .i64 0, .bool false, .int .i64 0, .string ⟨#[]⟩, .int .i64 0, .slice none 0 0], .int .i64 190])) ∨ ∃ d A c, decD s.data.toList = some d ∧ e = .returned (.tuple #[.agg (mcells d A c).toArray, .int .i64 0]) ∧ d.fits ∧ RRow w' w.heap.size A c d.recs))) := Lib.hid fun _ _ => Iff.rfl
  generalize DecPost s w = POST at *
  unfold rrO at HR0 HB0 hz0 HZ0
  go_enter Try.func22, Try.ntmps22
  have HN := Lib.hid (rnum_any (w.heap.size + 1) s 0 2 false _ HR0.out hs hlt0 (by omega) (by omega))
  rw [show ((2 : Nat) : Int) = 2 from rfl] at HN
  go_wp2_with fail
  refine HN.out.mono ?_
  rintro e w1 ⟨⟨id, a1, b1, rfl, hr1, hlt1, ⟨id0, id1⟩, hc1⟩, hg1⟩
  have F1 := Lib.hid (Fol.num F0.out 2 id (·.id) (fun d => be 1 (ansN d.ans) ++ (be 1 d.code ++ (be 1 d.kd ++ (encName d.nm ++ (be 1 d.recs.length ++ d.recs.flatMap encRec))))) (fun d hd _ => ⟨rfl, by have := (msgB_iff d).1 hd; show 0 ≤ d.id ∧ d.id < 65536; omega⟩) hc1)
  have HZx := bblock_only hg1 HZ0.out (by omega)
  have HBx := below_only HB0.out hg1 (by omega)
  have hz1 : w.heap.size + 2 ≤ w1.heap.size := Nat.le_trans hz0 hg1.size
  unfold rrO at hr1
  clear HN HZ0 HB0 HR0 F0 hz0 hc1 hg1
  have HD1 := Lib.hid (alloc_new w1 (.cells #[.int .i64 id, .bool false, .int .i64 0, .string ⟨#[]⟩, .int .i64 0, .slice none 0 0] 27))
  have HZ1 := Lib.hid (block_alloc HZx (.cells #[.int .i64 id, .bool false, .int .i64 0, .string ⟨#[]⟩, .int .i64 0, .slice none 0 0] 27)); have HR1 := Lib.hid (block_alloc hr1 (.cells #[.int .i64 id, .bool false, .int .i64 0, .string ⟨#[]⟩, .int .i64 0, .slice none 0 0] 27)); have HB1 := Lib.hid (below_alloc (o := .cells #[.int .i64 id, .bool false, .int .i64 0, .string ⟨#[]⟩, .int .i64 0, .slice none 0 0] 27) HBx)
  have hz9 : w.heap.size + 2 ≤ (w1.alloc (.cells #[.int .i64 id, .bool false, .int .i64 0, .string ⟨#[]⟩, .int .i64 0, .slice none 0 0] 27)).heap.size := by simp; omega
  obtain ⟨bd, hbd⟩ : ∃ bd, w1.heap.size = bd := ⟨_, rfl⟩
  have hbd2 : w.heap.size + 2 ≤ bd := by omega
  rw [hbd] at HD1
  clear HZx HBx hr1 hz1; have hz1 := hz9; clear hz9
  obtain ⟨W1, hW1⟩ : ∃ W1, W1 = w1.alloc (.cells #[.int .i64 id, .bool false, .int .i64 0, .string ⟨#[]⟩, .int .i64 0, .slice none 0 0] 27) := ⟨_, rfl⟩
  rw [← hW1] at HD1 HZ1 HR1 HB1 hz1
  go_upto_region 3 with fail
  rw [← hW1]
  clear hW1 hbd
  have HN := Lib.hid (rnum_any (w.heap.size + 1) s a1 1 b1 _ HR1.out hs hlt1 (by omega) (by omega))
  rw [show ((1 : Nat) : Int) = 1 from rfl] at HN
  go_wp2_with fail
  refine HN.out.mono ?_
  rintro e w2 ⟨⟨an, a2, b2, rfl, hr2, hlt2, ⟨an0, an1⟩, hc2⟩, hg2⟩
  have F2 := Lib.hid (Fol.num F1.out 1 an (fun d => ansN d.ans) (fun d => be 1 d.code ++ (be 1 d.kd ++ (encName d.nm ++ (be 1 d.recs.length ++ d.recs.flatMap encRec)))) (fun d hd _ => ⟨rfl, by unfold ansN; split <;> decide⟩) hc2)
  have HZx := bblock_only hg2 HZ1.out (by omega)
  have HBx := below_only HB1.out hg2 (by omega)
  have HDx := bblock_only hg2 HD1.out (by omega)
  have hz2 : w.heap.size + 2 ≤ w2.heap.size := Nat.le_trans hz1 hg2.size
  unfold rrO at hr2
  clear HN HZ1 HB1 HR1 F1 hz1 hc2 hg2 HD1
  have HDy := Lib.hid HDx; clear HDx; have HDx := HDy; clear HDy
  have q1 := (cell_of_block (k := 1) HDx.out rfl).1; have y1 := (cell_of_block (k := 1) HDx.out rfl).2
  have HD2 := Lib.hid (cells_eq (b := #[.int .i64 id, .bool (an == 1), .int .i64 0, .string ⟨#[]⟩, .int .i64 0, .slice none 0 0]) (block_setCell (k := 1) (v := .bool (an == 1)) HDx.out) rfl)
  have HZ2 := Lib.hid (block_set_other (a := ⟨bd, 1, none⟩) (u := .bool (an == 1)) HZx (by first | (simp; done) | (simp; omega)))
  have HR2 := Lib.hid (block_set_other (a := ⟨bd, 1, none⟩) (u := .bool (an == 1)) hr2 (by first | (simp; done) | (simp; omega)))
  have HB2 := Lib.hid (Below.setCell HBx (p := ⟨bd, 1, none⟩) (by simp; omega) (.bool (an == 1)))
  have hzy : w.heap.size + 2 ≤ (w2.setCell ⟨bd, 1, none⟩ (.bool (an == 1))).heap.size := by simpa [World.setCell] using hz2
  clear HZx HBx hr2 hz2; have hz2 := hzy; clear hzy
  obtain ⟨W2, hW2⟩ : ∃ W2, W2 = w2.setCell ⟨bd, 1, none⟩ (.bool (an == 1)) := ⟨_, rfl⟩
  rw [← hW2] at HD2 HZ2 HR2 HB2 hz2
  go_upto_region 5 with fail
  rw [← hW2]
  clear hW2 HDx q1 y1
  have HN := Lib.hid (rnum_any (w.heap.size + 1) s a2 1 b2 _ HR2.out hs hlt2 (by omega) (by omega))
  rw [show ((1 : Nat) : Int) = 1 from rfl] at HN
  go_wp2_with fail
  refine HN.out.mono ?_
  rintro e w3 ⟨⟨code, a3, b3, rfl, hr3, hlt3, ⟨code0, code1⟩, hc3⟩, hg3⟩
  have F3 := Lib.hid (Fol.num F2.out 1 code (·.code) (fun d => be 1 d.kd ++ (encName d.nm ++ (be 1 d.recs.length ++ d.recs.flatMap encRec))) (fun d hd _ => ⟨rfl, by have := (msgB_iff d).1 hd; show 0 ≤ d.code ∧ d.code < 256; omega⟩) hc3)
  have HZx := bblock_only hg3 HZ2.out (by omega)
  have HBx := below_only HB2.out hg3 (by omega)
  have HDx := bblock_only hg3 HD2.out (by omega)
  have hz3 : w.heap.size + 2 ≤ w3.heap.size := Nat.le_trans hz2 hg3.size
  unfold rrO at hr3
  clear HN HZ2 HB2 HR2 F2 hz2 hc3 hg3 HD2
  have HDy := Lib.hid HDx; clear HDx; have HDx := HDy; clear HDy
  have q2 := (cell_of_block (k := 2) HDx.out rfl).1; have y2 := (cell_of_block (k := 2) HDx.out rfl).2
  have HD3 := Lib.hid (cells_eq (b := #[.int .i64 id, .bool (an == 1), .int .i64 code, .string ⟨#[]⟩, .int .i64 0, .slice none 0 0]) (block_setCell (k := 2) (v := .int .i64 code) HDx.out) rfl)
  have HZ3 := Lib.hid (block_set_other (a := ⟨bd, 2, none⟩) (u := .int .i64 code) HZx (by first | (simp; done) | (simp; omega)))
  have HR3 := Lib.hid (block_set_other (a := ⟨bd, 2, none⟩) (u := .int .i64 code) hr3 (by first | (simp; done) | (simp; omega)))
  have HB3 := Lib.hid (Below.setCell HBx (p := ⟨bd, 2, none⟩) (by simp; omega) (.int .i64 code))
  have hzy : w.heap.size + 2 ≤ (w3.setCell ⟨bd, 2, none⟩ (.int .i64 code)).heap.size := by simpa [World.setCell] using hz3
  clear HZx HBx hr3 hz3; have hz3 := hzy; clear hzy
  obtain ⟨W3, hW3⟩ : ∃ W3, W3 = w3.setCell ⟨bd, 2, none⟩ (.int .i64 code) := ⟨_, rfl⟩
  rw [← hW3] at HD3 HZ3 HR3 HB3 hz3
  go_upto_region 5 with fail
  rw [← hW3]
  clear hW3 HDx q2 y2
  have HN := Lib.hid (rnum_any (w.heap.size + 1) s a3 1 b3 _ HR3.out hs hlt3 (by omega) (by omega))
  rw [show ((1 : Nat) : Int) = 1 from rfl] at HN
  go_wp2_with fail
  refine HN.out.mono ?_
  rintro e w4 ⟨⟨kd, a4, b4, rfl, hr4, hlt4, ⟨kd0, kd1⟩, hc4⟩, hg4⟩
  have F4 := Lib.hid (Fol.num F3.out 1 kd (·.kd) (fun d => encName d.nm ++ (be 1 d.recs.length ++ d.recs.flatMap encRec)) (fun d hd _ => ⟨rfl, by have := (msgB_iff d).1 hd; show 0 ≤ d.kd ∧ d.kd < 256; omega⟩) hc4)
  have HZx := bblock_only hg4 HZ3.out (by omega)
  have HBx := below_only HB3.out hg4 (by omega)
  have HDx := bblock_only hg4 HD3.out (by omega)
  have hz4 : w.heap.size + 2 ≤ w4.heap.size := Nat.le_trans hz3 hg4.size
  unfold rrO at hr4
  clear HN HZ3 HB3 HR3 F3 hz3 hc4 hg4 HD3
  have HDy := Lib.hid HDx; clear HDx; have HDx := HDy; clear HDy
  have q4 := (cell_of_block (k := 4) HDx.out rfl).1; have y4 := (cell_of_block (k := 4) HDx.out rfl).2
  have HD4 := Lib.hid (cells_eq (b := #[.int .i64 id, .bool (an == 1), .int .i64 code, .string ⟨#[]⟩, .int .i64 kd, .slice none 0 0]) (block_setCell (k := 4) (v := .int .i64 kd) HDx.out) rfl)
  have HZ4 := Lib.hid (block_set_other (a := ⟨bd, 4, none⟩) (u := .int .i64 kd) HZx (by first | (simp; done) | (simp; omega)))
  have HR4 := Lib.hid (block_set_other (a := ⟨bd, 4, none⟩) (u := .int .i64 kd) hr4 (by first | (simp; done) | (simp; omega)))
  have HB4 := Lib.hid (Below.setCell HBx (p := ⟨bd, 4, none⟩) (by simp; omega) (.int .i64 kd))
  have hzy : w.heap.size + 2 ≤ (w4.setCell ⟨bd, 4, none⟩ (.int .i64 kd)).heap.size := by simpa [World.setCell] using hz4
  clear HZx HBx hr4 hz4; have hz4 := hzy; clear hzy
  obtain ⟨W4, hW4⟩ : ∃ W4, W4 = w4.setCell ⟨bd, 4, none⟩ (.int .i64 kd) := ⟨_, rfl⟩
  rw [← hW4] at HD4 HZ4 HR4 HB4 hz4
  go_upto_region 6 with fail
  rw [← hW4]
  clear hW4 HDx q4 y4
  have HN := Lib.hid (rrname_l (w.heap.size + 1) s a4 b4 _ HR4.out hs hlt4)
  go_wp2_with fail
  refine HN.out.mono ?_
  rintro e w5 ⟨⟨nm, a5, b5, rfl, hr5, hlt5, hsz5, hc5⟩, hg5⟩
  have F5 := Lib.hid (Fol.name F4.out (·.nm) (fun d => be 1 d.recs.length ++ d.recs.flatMap encRec) (fun d hd _ => ⟨rfl, ((msgB_iff d).1 hd).2.1⟩) hc5)
  have HZx := bblock_only hg5 HZ4.out (by omega)
  have HBx := below_only HB4.out hg5 (by omega)
  have HDx := bblock_only hg5 HD4.out (by omega)
  have hz5 : w.heap.size + 2 ≤ w5.heap.size := Nat.le_trans hz4 hg5.size
  unfold rrO at hr5
  clear HN HZ4 HB4 HR4 F4 hz4 hc5 hg5 HD4
  have HDy := Lib.hid HDx; clear HDx; have HDx := HDy; clear HDy
  have q3 := (cell_of_block (k := 3) HDx.out rfl).1; have y3 := (cell_of_block (k := 3) HDx.out rfl).2
  have HD5 := Lib.hid (cells_eq (b := #[.int .i64 id, .bool (an == 1), .int .i64 code, .string ⟨nm.toArray⟩, .int .i64 kd, .slice none 0 0]) (block_setCell (k := 3) (v := .string ⟨nm.toArray⟩) HDx.out) rfl)
  have HZ5 := Lib.hid (block_set_other (a := ⟨bd, 3, none⟩) (u := .string ⟨nm.toArray⟩) HZx (by first | (simp; done) | (simp; omega)))
  have HR5 := Lib.hid (block_set_other (a := ⟨bd, 3, none⟩) (u := .string ⟨nm.toArray⟩) hr5 (by first | (simp; done) | (simp; omega)))
  have HB5 := Lib.hid (Below.setCell HBx (p := ⟨bd, 3, none⟩) (by simp; omega) (.string ⟨nm.toArray⟩))
  have hzy : w.heap.size + 2 ≤ (w5.setCell ⟨bd, 3, none⟩ (.string ⟨nm.toArray⟩)).heap.size := by simpa [World.setCell] using hz5
  clear HZx HBx hr5 hz5; have hz5 := hzy; clear hzy
  obtain ⟨W5, hW5⟩ : ∃ W5, W5 = w5.setCell ⟨bd, 3, none⟩ (.string ⟨nm.toArray⟩) := ⟨_, rfl⟩
  rw [← hW5] at HD5 HZ5 HR5 HB5 hz5
  go_upto_region 7 with fail
  rw [← hW5]
  clear hW5 HDx q3 y3
  have HN := Lib.hid (rnum_any (w.heap.size + 1) s a5 1 b5 _ HR5.out hs hlt5 (by omega) (by omega))
  rw [show ((1 : Nat) : Int) = 1 from rfl] at HN
  go_wp2_with fail
  refine HN.out.mono ?_
  rintro e w6 ⟨⟨cnt, a6, b6, rfl, hr6, hlt6, ⟨cnt0, cnt1⟩, hc6⟩, hg6⟩
  have F6 := Lib.hid (Fol.num F5.out 1 cnt (fun d => (d.recs.length : Int)) (fun d => d.recs.flatMap encRec) (fun d hd _ => ⟨rfl, by have := (msgB_iff d).1 hd; show 0 ≤ (d.recs.length : Int) ∧ (d.recs.length : Int) < 256; omega⟩) hc6)
  have HZx := bblock_only hg6 HZ5.out (by omega)
  have HBx := below_only HB5.out hg6 (by omega)
  have HDx := bblock_only hg6 HD5.out (by omega)
  have hz6 : w.heap.size + 2 ≤ w6.heap.size := Nat.le_trans hz5 hg6.size
  unfold rrO at hr6
  clear HN HZ5 HB5 HR5 F5 hz5 hc6 hg6 HD5
  have HZ6 := Lib.hid HZx; have HD6 := Lib.hid HDx; have HR6 := Lib.hid hr6; have HB6 := Lib.hid HBx; clear HZx HDx hr6 HBx
  obtain ⟨n, rfl⟩ := Int.eq_ofNat_of_zero_le cnt0
  have hn256 : n < 256 := by omega
  have F := Lib.hid (F6.out.mono (p' := tailK 0) (q' := LpE id an code kd n nm 0 []) fun d hd h => ⟨⟨⟨h.1.1.1.1.1.2, by rw [h.1.1.1.1.2]; cases d.ans <;> rfl, h.1.1.1.2, h.1.1.2, h.1.2, h.2⟩, rfl⟩, rfl⟩)
  clear F6 cnt0 cnt1 id0 id1 an0 an1 code0 code1 kd0 kd1
  go_wp2_with fail
  go_loopw [8] (fun u wr => ∃ (k : Nat) (l : List Rec) (A : Option Addr) (c a : Nat) (b : Bool), k ≤ n ∧ u = .int .i64 (k : Int) ∧ LI w s bd id an code kd n nm k l A c a b wr) (fun u _ => n - (Go.RowKit.intOf u).toNat)
  case atStart => exact ⟨0, [], none, 0, a6, b6, by omega, rfl, HR6.out, hlt6, HZ6.out, HD6.out, SRow.nil _ _ _ _ _, rfl, fun r h => by simp at h, F.out, HB6.out⟩
  case round =>
    clear HR6 HZ6 HD6 HB6 F
    obtain ⟨k, l, A, c, a, b, hk, rfl, hI⟩ := hrel
    have HI := Lib.hid hI; clear hI
    have hla := HI.out.le
    have lD := blk_lt HI.out.d
    have hk0 : (0 : Int) ≤ (k : Int) := by omega
    by_cases hin : k < n ∧ b = false
    · obtain ⟨hlt, rfl⟩ := hin
      have hkl : decide ((k : Int) < (n : Int)) = true := decide_eq_true (by omega)
      have hqb := (cell_of_block (k := 2) HI.out.rd rfl).1
      have hzr := HI.out.gr.size
      have HN := Lib.hid (rrname_l (w.heap.size + 1) s a false _ HI.out.rd hs hla)
      go_wp2_with fail
      refine HN.out.mono ?_
      rintro e v1 ⟨⟨rn, e1, d1, rfl, hr1, hf1, hsz1, hc1⟩, hg1⟩
      have G1 := Lib.hid (fol_name HI.out.fol hlt hc1)
      have Zx := Lib.hid (bblock_only hg1 HI.out.z (by omega)); have Dx := Lib.hid (bblock_only hg1 HI.out.d (by omega)); have Bx := Lib.hid (below_only HI.out.gr hg1 (by omega))
      have Rw : Hid (RRow v1 (bd + 1) A c l) := Lib.hid (SRow.kept HI.out.row (fun x hx => hg1.block x.block (HI.out.row.bk hx).2 (by intro e; injection e with e; have := (HI.out.row.bk hx).1; omega)))
      have hv1 : bd < v1.heap.size := blk_lt Dx.out
      have HRk : Hid (∀ {q}, BK A q → bd + 1 ≤ q ∧ q < v1.heap.size) := Lib.hid fun h => Rw.out.bk' h
      have hln := HI.out.len; have HFs := Lib.hid HI.out.fits
      unfold rrO at hr1
      clear HN HI hc1 hg1 hqb hzr lD hla
      have Hx := Lib.hid (alloc_new v1 (.cells #[.string ⟨rn.toArray⟩, .int .i64 0, .int .i64 0, .int .i64 0, .string ⟨#[]⟩] 50))
      have Z1 := Lib.hid (block_alloc Zx.out (.cells #[.string ⟨rn.toArray⟩, .int .i64 0, .int .i64 0, .int .i64 0, .string ⟨#[]⟩] 50)); have D1 := Lib.hid (block_alloc Dx.out (.cells #[.string ⟨rn.toArray⟩, .int .i64 0, .int .i64 0, .int .i64 0, .string ⟨#[]⟩] 50)); have R1 := Lib.hid (block_alloc hr1 (.cells #[.string ⟨rn.toArray⟩, .int .i64 0, .int .i64 0, .int .i64 0, .string ⟨#[]⟩] 50)); have B1 := Lib.hid (below_alloc (o := .cells #[.string ⟨rn.toArray⟩, .int .i64 0, .int .i64 0, .int .i64 0, .string ⟨#[]⟩] 50) Bx.out); have Rw1 := Lib.hid (Rw.out.below ((Below.refl v1.heap.size v1).alloc (Nat.le_refl _) (.cells #[.string ⟨rn.toArray⟩, .int .i64 0, .int .i64 0, .int .i64 0, .string ⟨#[]⟩] 50)))
      have hs1 : v1.heap.size < (v1.alloc (.cells #[.string ⟨rn.toArray⟩, .int .i64 0, .int .i64 0, .int .i64 0, .string ⟨#[]⟩] 50)).heap.size := by simp
      clear Zx Dx hr1 Bx Rw
      obtain ⟨bx, hbx⟩ : ∃ bx, v1.heap.size = bx := ⟨_, rfl⟩
      have hbx2 : bd < bx := by omega
      rw [hbx] at Hx hs1
      obtain ⟨V1, hV1⟩ : ∃ V1, V1 = v1.alloc (.cells #[.string ⟨rn.toArray⟩, .int .i64 0, .int .i64 0, .int .i64 0, .string ⟨#[]⟩] 50) := ⟨_, rfl⟩
      rw [← hV1] at Hx Z1 D1 R1 B1 Rw1 hs1
      go_upto_region 13 with fail
      rw [← hV1]; try rw [hbx]
      have HNb : Hid (¬ BK A bx) := Lib.hid (fun h => by have := (HRk.out h).2; omega)
      clear hV1 hbx hv1 HRk
      have HN := Lib.hid (rnum_any (w.heap.size + 1) s e1 1 d1 _ R1.out hs hf1 (by omega) (by omega)); rw [show ((1 : Nat) : Int) = 1 from rfl] at HN
      go_wp2_with fail
      refine HN.out.mono ?_
      rintro e v2 ⟨⟨rk, e2, d2, rfl, hr2, hf2, ⟨_, _⟩, hc2⟩, hg2⟩
      have G2 := Lib.hid (fol_kind G1.out (fun d h => lp_lt h.1 hlt) hc2)
      have Zx := Lib.hid (bblock_only hg2 Z1.out (by omega)); have Dx := Lib.hid (bblock_only hg2 D1.out (by omega)); have Xx := Lib.hid (bblock_only hg2 Hx.out (by omega)); have Bx := Lib.hid (below_only B1.out hg2 (by omega))
      have Rx : Hid (RRow v2 (bd + 1) A c l) := Lib.hid (SRow.kept Rw1.out (fun x hx => hg2.block x.block (Rw1.out.bk hx).2 (by intro e; injection e with e; have := (Rw1.out.bk hx).1; omega)))
      have hs2 : bx < v2.heap.size := blk_lt Xx.out
      unfold rrO at hr2
      clear HN Z1 D1 R1 B1 Rw1 G1 Hx hc2 hg2 hs1
      have q0 := (cell_of_block (k := 1) Xx.out rfl).1; have y0 := (cell_of_block (k := 1) Xx.out rfl).2
      have Hx := Lib.hid (cells_eq (b := #[.string ⟨rn.toArray⟩, .int .i64 rk, .int .i64 0, .int .i64 0, .string ⟨#[]⟩]) (block_setCell (k := 1) (v := .int .i64 rk) Xx.out) rfl)
      have Z2 := Lib.hid (block_set_other (a := ⟨bx, 1, none⟩) (u := .int .i64 rk) Zx.out (by first | (simp; done) | (simp; omega))); have D2 := Lib.hid (block_set_other (a := ⟨bx, 1, none⟩) (u := .int .i64 rk) Dx.out (by first | (simp; done) | (simp; omega))); have R2 := Lib.hid (block_set_other (a := ⟨bx, 1, none⟩) (u := .int .i64 rk) hr2 (by first | (simp; done) | (simp; omega))); have B2 := Lib.hid (Below.setCell Bx.out (p := ⟨bx, 1, none⟩) (by simp; omega) (.int .i64 rk))
      have Rw2 : Hid (RRow (v2.setCell ⟨bx, 1, none⟩ (.int .i64 rk)) (bd + 1) A c l) := Lib.hid (SRow.kept Rx.out (fun x hx => Below.heap_setCell _ _ _ _ (fun e => HNb.out ⟨x, hx, e⟩)))
      clear Zx Dx hr2 Bx Rx
      obtain ⟨V2, hV2⟩ : ∃ V2, V2 = v2.setCell ⟨bx, 1, none⟩ (.int .i64 rk) := ⟨_, rfl⟩
      have hs2' : bx < (v2.setCell ⟨bx, 1, none⟩ (.int .i64 rk)).heap.size := by simpa [World.setCell] using hs2
      rw [← hV2] at Hx Z2 D2 R2 B2 Rw2 hs2'
      clear hs2; have hs2 := hs2'; clear hs2'
      go_upto_region 14 with fail
      rw [← hV2]
      clear hV2 Xx q0 y0
      have HN := Lib.hid (rnum_any (w.heap.size + 1) s e2 2 d2 _ R2.out hs hf2 (by omega) (by omega)); rw [show ((2 : Nat) : Int) = 2 from rfl] at HN
      go_wp2_with fail
      refine HN.out.mono ?_
      rintro e v3 ⟨⟨rt, e3, d3, rfl, hr3, hf3, ⟨_, _⟩, hc3⟩, hg3⟩
      have G3 := Lib.hid (fol_ttl G2.out (fun d h => lp_lt h.1.1 hlt) hc3)
      have Zx := Lib.hid (bblock_only hg3 Z2.out (by omega)); have Dx := Lib.hid (bblock_only hg3 D2.out (by omega)); have Xx := Lib.hid (bblock_only hg3 Hx.out (by omega)); have Bx := Lib.hid (below_only B2.out hg3 (by omega))
      have Rx : Hid (RRow v3 (bd + 1) A c l) := Lib.hid (SRow.kept Rw2.out (fun x hx => hg3.block x.block (Rw2.out.bk hx).2 (by intro e; injection e with e; have := (Rw2.out.bk hx).1; omega)))
      have hs3 : bx < v3.heap.size := blk_lt Xx.out
      unfold rrO at hr3
      clear HN Z2 D2 R2 B2 Rw2 G2 Hx hc3 hg3 hs2
      have q0 := (cell_of_block (k := 2) Xx.out rfl).1; have y0 := (cell_of_block (k := 2) Xx.out rfl).2
      have Hx := Lib.hid (cells_eq (b := #[.string ⟨rn.toArray⟩, .int .i64 rk, .int .i64 rt, .int .i64 0, .string ⟨#[]⟩]) (block_setCell (k := 2) (v := .int .i64 rt) Xx.out) rfl)
      have Z3 := Lib.hid (block_set_other (a := ⟨bx, 2, none⟩) (u := .int .i64 rt) Zx.out (by first | (simp; done) | (simp; omega))); have D3 := Lib.hid (block_set_other (a := ⟨bx, 2, none⟩) (u := .int .i64 rt) Dx.out (by first | (simp; done) | (simp; omega))); have R3 := Lib.hid (block_set_other (a := ⟨bx, 2, none⟩) (u := .int .i64 rt) hr3 (by first | (simp; done) | (simp; omega))); have B3 := Lib.hid (Below.setCell Bx.out (p := ⟨bx, 2, none⟩) (by simp; omega) (.int .i64 rt))
      have Rw3 : Hid (RRow (v3.setCell ⟨bx, 2, none⟩ (.int .i64 rt)) (bd + 1) A c l) := Lib.hid (SRow.kept Rx.out (fun x hx => Below.heap_setCell _ _ _ _ (fun e => HNb.out ⟨x, hx, e⟩)))
      clear Zx Dx hr3 Bx Rx
      obtain ⟨V3, hV3⟩ : ∃ V3, V3 = v3.setCell ⟨bx, 2, none⟩ (.int .i64 rt) := ⟨_, rfl⟩
      have hs3' : bx < (v3.setCell ⟨bx, 2, none⟩ (.int .i64 rt)).heap.size := by simpa [World.setCell] using hs3
      rw [← hV3] at Hx Z3 D3 R3 B3 Rw3 hs3'
      clear hs3; have hs3 := hs3'; clear hs3'
      go_upto_region 15 with fail
      rw [← hV3]
      clear hV3 Xx q0 y0
      have qx1 := (cell_of_block (k := 1) Hx.out rfl).1
      by_cases h1 : rk = 1
      · have hrk : (rk == 1) = true := by simp [h1]
        have H1 := Lib.hid h1; clear h1
        have HN := Lib.hid (rnum_any (w.heap.size + 1) s e3 4 d3 _ R3.out hs hf3 (by omega) (by omega)); rw [show ((4 : Nat) : Int) = 4 from rfl] at HN
        go_wp2_with fail
        refine HN.out.mono ?_
        rintro e v4 ⟨⟨ra, e4, d4, rfl, hr4, hf4, ⟨_, _⟩, hc4⟩, hg4⟩
        have G4 := Lib.hid (fol_addr G3.out hlt H1.out hc4)
        have Zx := Lib.hid (bblock_only hg4 Z3.out (by omega)); have Dx := Lib.hid (bblock_only hg4 D3.out (by omega)); have Xx := Lib.hid (bblock_only hg4 Hx.out (by omega)); have Bx := Lib.hid (below_only B3.out hg4 (by omega))
        have Rx : Hid (RRow v4 (bd + 1) A c l) := Lib.hid (SRow.kept Rw3.out (fun x hx => hg4.block x.block (Rw3.out.bk hx).2 (by intro e; injection e with e; have := (Rw3.out.bk hx).1; omega)))
        have hs4 : bx < v4.heap.size := blk_lt Xx.out
        unfold rrO at hr4
        clear HN Z3 D3 R3 B3 Rw3 G3 Hx hc4 hg4 hs3
        have q0 := (cell_of_block (k := 3) Xx.out rfl).1; have y0 := (cell_of_block (k := 3) Xx.out rfl).2
        have Hx := Lib.hid (cells_eq (b := #[.string ⟨rn.toArray⟩, .int .i64 rk, .int .i64 rt, .int .i64 ra, .string ⟨#[]⟩]) (block_setCell (k := 3) (v := .int .i64 ra) Xx.out) rfl)
        have Z4 := Lib.hid (block_set_other (a := ⟨bx, 3, none⟩) (u := .int .i64 ra) Zx.out (by first | (simp; done) | (simp; omega))); have D4 := Lib.hid (block_set_other (a := ⟨bx, 3, none⟩) (u := .int .i64 ra) Dx.out (by first | (simp; done) | (simp; omega))); have R4 := Lib.hid (block_set_other (a := ⟨bx, 3, none⟩) (u := .int .i64 ra) hr4 (by first | (simp; done) | (simp; omega))); have B4 := Lib.hid (Below.setCell Bx.out (p := ⟨bx, 3, none⟩) (by simp; omega) (.int .i64 ra))
        have Rw4 : Hid (RRow (v4.setCell ⟨bx, 3, none⟩ (.int .i64 ra)) (bd + 1) A c l) := Lib.hid (SRow.kept Rx.out (fun x hx => Below.heap_setCell _ _ _ _ (fun e => HNb.out ⟨x, hx, e⟩)))
        clear Zx Dx hr4 Bx Rx
        obtain ⟨V4, hV4⟩ : ∃ V4, V4 = v4.setCell ⟨bx, 3, none⟩ (.int .i64 ra) := ⟨_, rfl⟩
        have hs4' : bx < (v4.setCell ⟨bx, 3, none⟩ (.int .i64 ra)).heap.size := by simpa [World.setCell] using hs4
        rw [← hV4] at Hx Z4 D4 R4 B4 Rw4 hs4'
        clear hs4; have hs4 := hs4'; clear hs4'
        go_upto_region 18 with fail
        rw [← hV4]
        clear hV4 Xx q0 y0
        have HNW := Lib.hid (alloc_new V4 (.cells #[.string ⟨rn.toArray⟩, .int .i64 rk, .int .i64 rt, .int .i64 ra, .string ⟨#[]⟩] 50))
        have R5 := Lib.hid (block_alloc R4.out (.cells #[.string ⟨rn.toArray⟩, .int .i64 rk, .int .i64 rt, .int .i64 ra, .string ⟨#[]⟩] 50)); have Z5 := Lib.hid (block_alloc Z4.out (.cells #[.string ⟨rn.toArray⟩, .int .i64 rk, .int .i64 rt, .int .i64 ra, .string ⟨#[]⟩] 50)); have D5 := Lib.hid (block_alloc D4.out (.cells #[.string ⟨rn.toArray⟩, .int .i64 rk, .int .i64 rt, .int .i64 ra, .string ⟨#[]⟩] 50)); have B5 := Lib.hid (below_alloc (o := .cells #[.string ⟨rn.toArray⟩, .int .i64 rk, .int .i64 rt, .int .i64 ra, .string ⟨#[]⟩] 50) B4.out); have Rw5 := Lib.hid (Rw4.out.below ((Below.refl V4.heap.size V4).alloc (Nat.le_refl _) (.cells #[.string ⟨rn.toArray⟩, .int .i64 rk, .int .i64 rt, .int .i64 ra, .string ⟨#[]⟩] 50)))
        obtain ⟨i0, hi, hz0, hz1, hz2⟩ := info_parts infoRecF
        have HC8 : Hid (([⟨rn, rk, rt, ra, []⟩] : List Rec).flatMap rcells = [.string ⟨rn.toArray⟩, .int .i64 rk, .int .i64 rt, .int .i64 ra, .string ⟨#[]⟩]) := Lib.hid rfl
        have hbdV := blk_lt D4.out
        have qx0 := (cell_of_block (k := 0) Hx.out rfl).1; have qx2 := (cell_of_block (k := 2) Hx.out rfl).1; have qx3 := (cell_of_block (k := 3) Hx.out rfl).1; have qx4 := (cell_of_block (k := 4) Hx.out rfl).1; have qx1' := (cell_of_block (k := 1) Hx.out rfl).1; have qd5 := (cell_of_block (k := 5) D4.out rfl).1
        have hln5 : l.length = k := hln
        clear hln
        go_wp2_with (at_builtin; refine list_app rfl (.tmp 65) (.tmp 67) 25 rfl Rw5.out rcells_len i0 _ 56 Try.underlying25 hi hz0 hz1 hz2 rfl (by decide) k hln5 _ _ _ [⟨rn, rk, rt, ra, []⟩] rfl rfl rfl (fun _ => ⟨_, rfl, by rw [HC8.out]; exact World.news_of_block HNW.out⟩) (by rw [HC8.out]; intro u hu; simp at hu; rcases hu with rfl | rfl | rfl | rfl | rfl <;> rfl) (by unfold maxLen; omega) (by omega) (by simp; omega) ?_; intro A2 c2 w9 ho hg ha; have D9 := Lib.hid ((hg.block _ (blk_lt D5.out) (fun e => by have := (Rw5.out.bk' (ob_bk e.symm)).1; omega)).trans D5.out); have d9 := (cell_of_block (k := 5) D9.out rfl).1; have z9 := (cell_of_block (k := 5) D9.out rfl).2)
        have R9 := Lib.hid ((hg.block _ (blk_lt R5.out) (fun e => by have := (Rw5.out.bk' (ob_bk e.symm)).1; omega)).trans R5.out); have Z9 := Lib.hid ((hg.block _ (blk_lt Z5.out) (fun e => by have := (Rw5.out.bk' (ob_bk e.symm)).1; omega)).trans Z5.out)
        have B9 := Lib.hid (B5.out.grown hg (by have := B4.out.size; simp; omega) (fun q e => by have := (Rw5.out.bk' (ob_bk e)).1; omega))
        have LIn : Hid (LI w s bd id an code kd n nm (k + 1) (l ++ [⟨rn, rk, rt, ra, []⟩]) A2 c2 e4 d4 (w9.setCell ⟨bd, 5, none⟩ (.slice A2 (k + 1) c2))) := Lib.hid ⟨block_set_other R9.out (by first | (simp; done) | (simp; omega)), hf4, block_set_other Z9.out (by first | (simp; done) | (simp; omega)), cells_eq (block_setCell (k := 5) D9.out) rfl, SRow.kept ho (fun x hx => Below.heap_setCell _ _ _ _ (fun e => by have := (ho.bk hx).1; simp at e; omega)), by rw [List.length_append, hln5]; rfl, fun r hr => by rcases List.mem_append.1 hr with h | h; exact HFs.out r h; rw [List.mem_singleton.1 h]; exact ⟨by show rn.length ≤ _; omega, by show 0 ≤ _; omega⟩, G4.out, Below.setCell B9.out (p := ⟨bd, 5, none⟩) (by simp; omega) _⟩
        exact ⟨⟨k + 1, _, A2, c2, e4, d4, by omega, by go_num, LIn.out⟩, by simp [Go.RowKit.intOf]; omega⟩
      · have hrk : (rk == 1) = false := by simp [h1]
        have H1 := Lib.hid h1; clear h1
        have HN := Lib.hid (rrname_l (w.heap.size + 1) s e3 d3 _ R3.out hs hf3)
        go_wp2_with fail
        refine HN.out.mono ?_
        rintro e v4 ⟨⟨rdd, e4, d4, rfl, hr4, hf4, hsz4, hc4⟩, hg4⟩
        have G4 := Lib.hid (fol_dst G3.out hlt H1.out hc4)
        have Zx := Lib.hid (bblock_only hg4 Z3.out (by omega)); have Dx := Lib.hid (bblock_only hg4 D3.out (by omega)); have Xx := Lib.hid (bblock_only hg4 Hx.out (by omega)); have Bx := Lib.hid (below_only B3.out hg4 (by omega))
        have Rx : Hid (RRow v4 (bd + 1) A c l) := Lib.hid (SRow.kept Rw3.out (fun x hx => hg4.block x.block (Rw3.out.bk hx).2 (by intro e; injection e with e; have := (Rw3.out.bk hx).1; omega)))
        have hs4 : bx < v4.heap.size := blk_lt Xx.out
        unfold rrO at hr4
        clear HN Z3 D3 R3 B3 Rw3 G3 Hx hc4 hg4 hs3
        have q0 := (cell_of_block (k := 4) Xx.out rfl).1; have y0 := (cell_of_block (k := 4) Xx.out rfl).2
        have Hx := Lib.hid (cells_eq (b := #[.string ⟨rn.toArray⟩, .int .i64 rk, .int .i64 rt, .int .i64 0, .string ⟨rdd.toArray⟩]) (block_setCell (k := 4) (v := .string ⟨rdd.toArray⟩) Xx.out) rfl)
        have Z4 := Lib.hid (block_set_other (a := ⟨bx, 4, none⟩) (u := .string ⟨rdd.toArray⟩) Zx.out (by first | (simp; done) | (simp; omega))); have D4 := Lib.hid (block_set_other (a := ⟨bx, 4, none⟩) (u := .string ⟨rdd.toArray⟩) Dx.out (by first | (simp; done) | (simp; omega))); have R4 := Lib.hid (block_set_other (a := ⟨bx, 4, none⟩) (u := .string ⟨rdd.toArray⟩) hr4 (by first | (simp; done) | (simp; omega))); have B4 := Lib.hid (Below.setCell Bx.out (p := ⟨bx, 4, none⟩) (by simp; omega) (.string ⟨rdd.toArray⟩))
        have Rw4 : Hid (RRow (v4.setCell ⟨bx, 4, none⟩ (.string ⟨rdd.toArray⟩)) (bd + 1) A c l) := Lib.hid (SRow.kept Rx.out (fun x hx => Below.heap_setCell _ _ _ _ (fun e => HNb.out ⟨x, hx, e⟩)))
        clear Zx Dx hr4 Bx Rx
        obtain ⟨V4, hV4⟩ : ∃ V4, V4 = v4.setCell ⟨bx, 4, none⟩ (.string ⟨rdd.toArray⟩) := ⟨_, rfl⟩
        have hs4' : bx < (v4.setCell ⟨bx, 4, none⟩ (.string ⟨rdd.toArray⟩)).heap.size := by simpa [World.setCell] using hs4
        rw [← hV4] at Hx Z4 D4 R4 B4 Rw4 hs4'
        clear hs4; have hs4 := hs4'; clear hs4'
        go_upto_region 18 with fail
        rw [← hV4]
        clear hV4 Xx q0 y0
        have HNW := Lib.hid (alloc_new V4 (.cells #[.string ⟨rn.toArray⟩, .int .i64 rk, .int .i64 rt, .int .i64 0, .string ⟨rdd.toArray⟩] 50))
        have R5 := Lib.hid (block_alloc R4.out (.cells #[.string ⟨rn.toArray⟩, .int .i64 rk, .int .i64 rt, .int .i64 0, .string ⟨rdd.toArray⟩] 50)); have Z5 := Lib.hid (block_alloc Z4.out (.cells #[.string ⟨rn.toArray⟩, .int .i64 rk, .int .i64 rt, .int .i64 0, .string ⟨rdd.toArray⟩] 50)); have D5 := Lib.hid (block_alloc D4.out (.cells #[.string ⟨rn.toArray⟩, .int .i64 rk, .int .i64 rt, .int .i64 0, .string ⟨rdd.toArray⟩] 50)); have B5 := Lib.hid (below_alloc (o := .cells #[.string ⟨rn.toArray⟩, .int .i64 rk, .int .i64 rt, .int .i64 0, .string ⟨rdd.toArray⟩] 50) B4.out); have Rw5 := Lib.hid (Rw4.out.below ((Below.refl V4.heap.size V4).alloc (Nat.le_refl _) (.cells #[.string ⟨rn.toArray⟩, .int .i64 rk, .int .i64 rt, .int .i64 0, .string ⟨rdd.toArray⟩] 50)))
        obtain ⟨i0, hi, hz0, hz1, hz2⟩ := info_parts infoRecF
        have HC8 : Hid (([⟨rn, rk, rt, 0, rdd⟩] : List Rec).flatMap rcells = [.string ⟨rn.toArray⟩, .int .i64 rk, .int .i64 rt, .int .i64 0, .string ⟨rdd.toArray⟩]) := Lib.hid rfl
        have hbdV := blk_lt D4.out
        have qx0 := (cell_of_block (k := 0) Hx.out rfl).1; have qx2 := (cell_of_block (k := 2) Hx.out rfl).1; have qx3 := (cell_of_block (k := 3) Hx.out rfl).1; have qx4 := (cell_of_block (k := 4) Hx.out rfl).1; have qx1' := (cell_of_block (k := 1) Hx.out rfl).1; have qd5 := (cell_of_block (k := 5) D4.out rfl).1
        have hln5 : l.length = k := hln
        clear hln
        go_wp2_with (at_builtin; refine list_app rfl (.tmp 65) (.tmp 67) 25 rfl Rw5.out rcells_len i0 _ 56 Try.underlying25 hi hz0 hz1 hz2 rfl (by decide) k hln5 _ _ _ [⟨rn, rk, rt, 0, rdd⟩] rfl rfl rfl (fun _ => ⟨_, rfl, by rw [HC8.out]; exact World.news_of_block HNW.out⟩) (by rw [HC8.out]; intro u hu; simp at hu; rcases hu with rfl | rfl | rfl | rfl | rfl <;> rfl) (by unfold maxLen; omega) (by omega) (by simp; omega) ?_; intro A2 c2 w9 ho hg ha; have D9 := Lib.hid ((hg.block _ (blk_lt D5.out) (fun e => by have := (Rw5.out.bk' (ob_bk e.symm)).1; omega)).trans D5.out); have d9 := (cell_of_block (k := 5) D9.out rfl).1; have z9 := (cell_of_block (k := 5) D9.out rfl).2)
        have R9 := Lib.hid ((hg.block _ (blk_lt R5.out) (fun e => by have := (Rw5.out.bk' (ob_bk e.symm)).1; omega)).trans R5.out); have Z9 := Lib.hid ((hg.block _ (blk_lt Z5.out) (fun e => by have := (Rw5.out.bk' (ob_bk e.symm)).1; omega)).trans Z5.out)
        have B9 := Lib.hid (B5.out.grown hg (by have := B4.out.size; simp; omega) (fun q e => by have := (Rw5.out.bk' (ob_bk e)).1; omega))
        have LIn : Hid (LI w s bd id an code kd n nm (k + 1) (l ++ [⟨rn, rk, rt, 0, rdd⟩]) A2 c2 e4 d4 (w9.setCell ⟨bd, 5, none⟩ (.slice A2 (k + 1) c2))) := Lib.hid ⟨block_set_other R9.out (by first | (simp; done) | (simp; omega)), hf4, block_set_other Z9.out (by first | (simp; done) | (simp; omega)), cells_eq (block_setCell (k := 5) D9.out) rfl, SRow.kept ho (fun x hx => Below.heap_setCell _ _ _ _ (fun e => by have := (ho.bk hx).1; simp at e; omega)), by rw [List.length_append, hln5]; rfl, fun r hr => by rcases List.mem_append.1 hr with h | h; exact HFs.out r h; rw [List.mem_singleton.1 h]; exact ⟨by show rn.length ≤ _; omega, by show rdd.length ≤ _; omega⟩, G4.out, Below.setCell B9.out (p := ⟨bd, 5, none⟩) (by simp; omega) _⟩
        exact ⟨⟨k + 1, _, A2, c2, e4, d4, by omega, by go_num, LIn.out⟩, by simp [Go.RowKit.intOf]; omega⟩
    · have hln := HI.out.len
      have hstop : Hid (b = false → ¬ k < n) := Lib.hid fun h q => hin ⟨q, h⟩
      have hqb := (cell_of_block (k := 2) HI.out.rd rfl).1
      obtain ⟨⟨m0, m1, m2, m3, m4, m5⟩, -⟩ := cells6 HI.out.d
      obtain ⟨HDn, -⟩ : ∃ _ : Hid (∀ d, LpE id an code kd n nm k l d → b = false → (⟨id, an == 1, code, nm, kd, l⟩ : Msg) = d), True := ⟨Lib.hid fun d h hb => lp_all h (hstop.out hb), trivial⟩
      obtain rfl : l.length = k := hln
      have HFit : Hid (Msg.fits ⟨id, an == 1, code, nm, kd, l⟩) := Lib.hid ⟨by show nm.length ≤ _; omega, by show l.length ≤ _; omega, HI.out.fits⟩
      have HNone : Hid (∀ P : Prop, (msgB ⟨id, an == 1, code, nm, kd, l⟩ = true → enc ⟨id, an == 1, code, nm, kd, l⟩ = s.data.toList → b = false → False) → decD s.data.toList = none) := Lib.hid fun _ h => fol_none HI.out.fol fun d hd he hq hb => by have e := HDn.out d hq hb; rw [e] at h; exact h hd he hb
      by_cases hm : msgB ⟨id, an == 1, code, nm, kd, l⟩ = true
      · have HEnc : Hid (∀ W, RRow W (bd + 1) A c l → Calls Try.prog 16 #[.agg #[.int .i64 id, .bool (an == 1), .int .i64 code, .string ⟨nm.toArray⟩, .int .i64 kd, .slice A l.length c]] W fun e w' => e = .returned (.tuple #[.string ⟨(enc ⟨id, an == 1, code, nm, kd, l⟩).toArray⟩, .int .i64 0]) ∧ Below W.heap.size W w') := Lib.hid fun W h => rencode_ok ⟨id, an == 1, code, nm, kd, l⟩ A c (bd + 1) W HFit.out h hm
        have HM := Lib.hid hm; clear hm
        by_cases hlt : l.length < n
        · have hkl : decide ((l.length : Int) < (n : Int)) = true := by simp; omega
          cases b with
          | true =>
            go_wp2_with fail
            refine (HEnc.out _ HI.out.row).mono ?_
            rintro e w8 ⟨rfl, hb8⟩
            have Z8 := Lib.hid (bblock hb8 HI.out.z); have D8 := Lib.hid (bblock hb8 HI.out.d); have B8 := below_call HI.out.gr hb8; have r8 := bcell hb8 hqb
            obtain ⟨⟨z0, z1, z2, z3, z4, z5⟩, f0, f1, f2, f3, f4, f5⟩ := cells6 Z8.out
            obtain ⟨⟨g0, g1, g2, g3, g4, g5⟩, -⟩ := cells6 D8.out
            clear m0 m1 m2 m3 m4 m5 hqb
            go_wp2_with fail
            have HZ := cells_eq (b := #[.int .i64 0, .bool false, .int .i64 0, .string ⟨#[]⟩, .int .i64 0, .slice none 0 0]) (block_setCell (k := 5) (v := .slice none 0 0) (block_setCell (k := 4) (v := .int .i64 0) (block_setCell (k := 3) (v := .string ⟨#[]⟩) (block_setCell (k := 2) (v := .int .i64 0) (block_setCell (k := 1) (v := .bool false) (block_setCell (k := 0) (v := .int .i64 0) Z8.out)))))) rfl
            refine bodyPost_ret (v := .tuple #[.agg #[.int .i64 0, .bool false, .int .i64 0, .string ⟨#[]⟩, .int .i64 0, .slice none 0 0], .int .i64 190]) ?_ rfl ((HPost.out _ _).2 ⟨(Below.setCell (Below.setCell (Below.setCell (Below.setCell (Below.setCell (Below.setCell B8 (by simp) _) (by simp) _) (by simp) _) (by simp) _) (by simp) _) (by simp) _), .inl ⟨HNone.out True (fun _ _ h => by cases h), rfl⟩⟩)
            exact res_cell_tmp Try.results22 HZ rfl Try.underlying27 rfl (by kernel_rfl)
          | false =>
            exact absurd hlt (hstop.out rfl)
        · have hkl : decide ((l.length : Int) < (n : Int)) = false := by simp; omega
          cases b with
          | true =>
            go_wp2_with fail
            refine (HEnc.out _ HI.out.row).mono ?_
            rintro e w8 ⟨rfl, hb8⟩
            have Z8 := Lib.hid (bblock hb8 HI.out.z); have D8 := Lib.hid (bblock hb8 HI.out.d); have B8 := below_call HI.out.gr hb8; have r8 := bcell hb8 hqb
            obtain ⟨⟨z0, z1, z2, z3, z4, z5⟩, f0, f1, f2, f3, f4, f5⟩ := cells6 Z8.out
            obtain ⟨⟨g0, g1, g2, g3, g4, g5⟩, -⟩ := cells6 D8.out
            clear m0 m1 m2 m3 m4 m5 hqb
            go_wp2_with fail
            have HZ := cells_eq (b := #[.int .i64 0, .bool false, .int .i64 0, .string ⟨#[]⟩, .int .i64 0, .slice none 0 0]) (block_setCell (k := 5) (v := .slice none 0 0) (block_setCell (k := 4) (v := .int .i64 0) (block_setCell (k := 3) (v := .string ⟨#[]⟩) (block_setCell (k := 2) (v := .int .i64 0) (block_setCell (k := 1) (v := .bool false) (block_setCell (k := 0) (v := .int .i64 0) Z8.out)))))) rfl
            refine bodyPost_ret (v := .tuple #[.agg #[.int .i64 0, .bool false, .int .i64 0, .string ⟨#[]⟩, .int .i64 0, .slice none 0 0], .int .i64 190]) ?_ rfl ((HPost.out _ _).2 ⟨(Below.setCell (Below.setCell (Below.setCell (Below.setCell (Below.setCell (Below.setCell B8 (by simp) _) (by simp) _) (by simp) _) (by simp) _) (by simp) _) (by simp) _), .inl ⟨HNone.out True (fun _ _ h => by cases h), rfl⟩⟩)
            exact res_cell_tmp Try.results22 HZ rfl Try.underlying27 rfl (by kernel_rfl)
          | false =>
            have HD0 : Hid (enc ⟨id, an == 1, code, nm, kd, l⟩ = s.data.toList → decD s.data.toList = some ⟨id, an == 1, code, nm, kd, l⟩) := Lib.hid fun h => (decD_iff _ _).2 ⟨HM.out, h⟩
            generalize enc ⟨id, an == 1, code, nm, kd, l⟩ = EE at *
            by_cases he : EE = s.data.toList
            · have HD := Lib.hid (HD0.out he)
              have he1 : (EE == s.toList) = true := by rw [ByteArray.toList_eq, he]; simp
              clear he HD0 HNone
              go_wp2_with fail
              refine (HEnc.out _ HI.out.row).mono ?_
              rintro e w8 ⟨rfl, hb8⟩
              have Z8 := Lib.hid (bblock hb8 HI.out.z); have D8 := Lib.hid (bblock hb8 HI.out.d); have B8 := below_call HI.out.gr hb8; have r8 := bcell hb8 hqb
              obtain ⟨⟨z0, z1, z2, z3, z4, z5⟩, f0, f1, f2, f3, f4, f5⟩ := cells6 Z8.out
              obtain ⟨⟨g0, g1, g2, g3, g4, g5⟩, -⟩ := cells6 D8.out
              clear m0 m1 m2 m3 m4 m5 hqb
              go_wp2_with fail
              have HZ := cells_eq (b := #[.int .i64 id, .bool (an == 1), .int .i64 code, .string ⟨nm.toArray⟩, .int .i64 kd, .slice A l.length c]) (block_setCell (k := 5) (v := .slice A l.length c) (block_setCell (k := 4) (v := .int .i64 kd) (block_setCell (k := 3) (v := .string ⟨nm.toArray⟩) (block_setCell (k := 2) (v := .int .i64 code) (block_setCell (k := 1) (v := .bool (an == 1)) (block_setCell (k := 0) (v := .int .i64 id) Z8.out)))))) rfl
              have HRw8 := SRow.below HI.out.row hb8
              refine bodyPost_ret (v := .tuple #[.agg #[.int .i64 id, .bool (an == 1), .int .i64 code, .string ⟨nm.toArray⟩, .int .i64 kd, .slice A l.length c], .int .i64 0]) ?_ rfl ((HPost.out _ _).2 ⟨(Below.setCell (Below.setCell (Below.setCell (Below.setCell (Below.setCell (Below.setCell B8 (by simp) _) (by simp) _) (by simp) _) (by simp) _) (by simp) _) (by simp) _), .inr ⟨⟨id, an == 1, code, nm, kd, l⟩, A, c, HD.out, rfl, HFit.out, ?_⟩⟩)
              · exact res_cell_tmp Try.results22 HZ rfl Try.underlying27 rfl (by kernel_rfl)
              · refine SRow.mono (SRow.kept HRw8 (fun x hx => ?_)) (by omega)
                have h9 := (HRw8.bk hx).1
                repeat rw [Below.heap_setCell _ _ _ _ (fun e => by simp at e; omega)]
            · have he1 : (EE == s.toList) = false := by rw [ByteArray.toList_eq]; simpa using he
              have HEe := Lib.hid he; clear he
              go_wp2_with fail
              refine (HEnc.out _ HI.out.row).mono ?_
              rintro e w8 ⟨rfl, hb8⟩
              have Z8 := Lib.hid (bblock hb8 HI.out.z); have D8 := Lib.hid (bblock hb8 HI.out.d); have B8 := below_call HI.out.gr hb8; have r8 := bcell hb8 hqb
              obtain ⟨⟨z0, z1, z2, z3, z4, z5⟩, f0, f1, f2, f3, f4, f5⟩ := cells6 Z8.out
              obtain ⟨⟨g0, g1, g2, g3, g4, g5⟩, -⟩ := cells6 D8.out
              clear m0 m1 m2 m3 m4 m5 hqb
              go_wp2_with fail
              have HZ := cells_eq (b := #[.int .i64 0, .bool false, .int .i64 0, .string ⟨#[]⟩, .int .i64 0, .slice none 0 0]) (block_setCell (k := 5) (v := .slice none 0 0) (block_setCell (k := 4) (v := .int .i64 0) (block_setCell (k := 3) (v := .string ⟨#[]⟩) (block_setCell (k := 2) (v := .int .i64 0) (block_setCell (k := 1) (v := .bool false) (block_setCell (k := 0) (v := .int .i64 0) Z8.out)))))) rfl
              refine bodyPost_ret (v := .tuple #[.agg #[.int .i64 0, .bool false, .int .i64 0, .string ⟨#[]⟩, .int .i64 0, .slice none 0 0], .int .i64 190]) ?_ rfl ((HPost.out _ _).2 ⟨(Below.setCell (Below.setCell (Below.setCell (Below.setCell (Below.setCell (Below.setCell B8 (by simp) _) (by simp) _) (by simp) _) (by simp) _) (by simp) _) (by simp) _), .inl ⟨HNone.out True (fun _ h _ => HEe.out h), rfl⟩⟩)
              exact res_cell_tmp Try.results22 HZ rfl Try.underlying27 rfl (by kernel_rfl)
      · have HEnc : Hid (∀ W, RRow W (bd + 1) A c l → Calls Try.prog 16 #[.agg #[.int .i64 id, .bool (an == 1), .int .i64 code, .string ⟨nm.toArray⟩, .int .i64 kd, .slice A l.length c]] W fun e w' => e = .returned (.tuple #[.string ⟨#[]⟩, .int .i64 190]) ∧ Below W.heap.size W w') := Lib.hid fun W h => rencode_no ⟨id, an == 1, code, nm, kd, l⟩ A c (bd + 1) W HFit.out h (by simpa using hm)
        have HM := Lib.hid hm; clear hm
        by_cases hlt : l.length < n
        · have hkl : decide ((l.length : Int) < (n : Int)) = true := by simp; omega
          cases b with
          | true =>
            go_wp2_with fail
            refine (HEnc.out _ HI.out.row).mono ?_
            rintro e w8 ⟨rfl, hb8⟩
            have Z8 := Lib.hid (bblock hb8 HI.out.z); have D8 := Lib.hid (bblock hb8 HI.out.d); have B8 := below_call HI.out.gr hb8; have r8 := bcell hb8 hqb
            obtain ⟨⟨z0, z1, z2, z3, z4, z5⟩, f0, f1, f2, f3, f4, f5⟩ := cells6 Z8.out
            obtain ⟨⟨g0, g1, g2, g3, g4, g5⟩, -⟩ := cells6 D8.out
            clear m0 m1 m2 m3 m4 m5 hqb
            go_wp2_with fail
            have HZ := cells_eq (b := #[.int .i64 0, .bool false, .int .i64 0, .string ⟨#[]⟩, .int .i64 0, .slice none 0 0]) (block_setCell (k := 5) (v := .slice none 0 0) (block_setCell (k := 4) (v := .int .i64 0) (block_setCell (k := 3) (v := .string ⟨#[]⟩) (block_setCell (k := 2) (v := .int .i64 0) (block_setCell (k := 1) (v := .bool false) (block_setCell (k := 0) (v := .int .i64 0) Z8.out)))))) rfl
            refine bodyPost_ret (v := .tuple #[.agg #[.int .i64 0, .bool false, .int .i64 0, .string ⟨#[]⟩, .int .i64 0, .slice none 0 0], .int .i64 190]) ?_ rfl ((HPost.out _ _).2 ⟨(Below.setCell (Below.setCell (Below.setCell (Below.setCell (Below.setCell (Below.setCell B8 (by simp) _) (by simp) _) (by simp) _) (by simp) _) (by simp) _) (by simp) _), .inl ⟨HNone.out True (fun _ _ h => by cases h), rfl⟩⟩)
            exact res_cell_tmp Try.results22 HZ rfl Try.underlying27 rfl (by kernel_rfl)
          | false =>
            exact absurd hlt (hstop.out rfl)
        · have hkl : decide ((l.length : Int) < (n : Int)) = false := by simp; omega
          cases b with
          | true =>
            go_wp2_with fail
            refine (HEnc.out _ HI.out.row).mono ?_
            rintro e w8 ⟨rfl, hb8⟩
            have Z8 := Lib.hid (bblock hb8 HI.out.z); have D8 := Lib.hid (bblock hb8 HI.out.d); have B8 := below_call HI.out.gr hb8; have r8 := bcell hb8 hqb
            obtain ⟨⟨z0, z1, z2, z3, z4, z5⟩, f0, f1, f2, f3, f4, f5⟩ := cells6 Z8.out
            obtain ⟨⟨g0, g1, g2, g3, g4, g5⟩, -⟩ := cells6 D8.out
            clear m0 m1 m2 m3 m4 m5 hqb
            go_wp2_with fail
            have HZ := cells_eq (b := #[.int .i64 0, .bool false, .int .i64 0, .string ⟨#[]⟩, .int .i64 0, .slice none 0 0]) (block_setCell (k := 5) (v := .slice none 0 0) (block_setCell (k := 4) (v := .int .i64 0) (block_setCell (k := 3) (v := .string ⟨#[]⟩) (block_setCell (k := 2) (v := .int .i64 0) (block_setCell (k := 1) (v := .bool false) (block_setCell (k := 0) (v := .int .i64 0) Z8.out)))))) rfl
            refine bodyPost_ret (v := .tuple #[.agg #[.int .i64 0, .bool false, .int .i64 0, .string ⟨#[]⟩, .int .i64 0, .slice none 0 0], .int .i64 190]) ?_ rfl ((HPost.out _ _).2 ⟨(Below.setCell (Below.setCell (Below.setCell (Below.setCell (Below.setCell (Below.setCell B8 (by simp) _) (by simp) _) (by simp) _) (by simp) _) (by simp) _) (by simp) _), .inl ⟨HNone.out True (fun _ _ h => by cases h), rfl⟩⟩)
            exact res_cell_tmp Try.results22 HZ rfl Try.underlying27 rfl (by kernel_rfl)
          | false =>
            go_wp2_with fail
            refine (HEnc.out _ HI.out.row).mono ?_
            rintro e w8 ⟨rfl, hb8⟩
            have Z8 := Lib.hid (bblock hb8 HI.out.z); have D8 := Lib.hid (bblock hb8 HI.out.d); have B8 := below_call HI.out.gr hb8; have r8 := bcell hb8 hqb
            obtain ⟨⟨z0, z1, z2, z3, z4, z5⟩, f0, f1, f2, f3, f4, f5⟩ := cells6 Z8.out
            obtain ⟨⟨g0, g1, g2, g3, g4, g5⟩, -⟩ := cells6 D8.out
            clear m0 m1 m2 m3 m4 m5 hqb
            go_wp2_with fail
            have HZ := cells_eq (b := #[.int .i64 0, .bool false, .int .i64 0, .string ⟨#[]⟩, .int .i64 0, .slice none 0 0]) (block_setCell (k := 5) (v := .slice none 0 0) (block_setCell (k := 4) (v := .int .i64 0) (block_setCell (k := 3) (v := .string ⟨#[]⟩) (block_setCell (k := 2) (v := .int .i64 0) (block_setCell (k := 1) (v := .bool false) (block_setCell (k := 0) (v := .int .i64 0) Z8.out)))))) rfl
            refine bodyPost_ret (v := .tuple #[.agg #[.int .i64 0, .bool false, .int .i64 0, .string ⟨#[]⟩, .int .i64 0, .slice none 0 0], .int .i64 190]) ?_ rfl ((HPost.out _ _).2 ⟨(Below.setCell (Below.setCell (Below.setCell (Below.setCell (Below.setCell (Below.setCell B8 (by simp) _) (by simp) _) (by simp) _) (by simp) _) (by simp) _) (by simp) _), .inl ⟨HNone.out True (fun h _ _ => HM.out h), rfl⟩⟩)
            exact res_cell_tmp Try.results22 HZ rfl Try.underlying27 rfl (by kernel_rfl)
end Go.Proofs.Ythdggmigjddneaa.Dn
