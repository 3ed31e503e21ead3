/-
  The walk of the law SegmentSequenceWraps of chapter 11.
-/
import Derived.Test.YtkinlmanimdlcaaSgArg
import Derived.Test.YtkinlmanimdlcaaSgEx
import Derived.Test.YtkinlmanimdlcaaSeqB
import Derived.Laws.MakeOwn
import Derived.Deep.RegionHeld3
import Derived.Deep.QuietTactic
namespace Go.Proofs.Ytkinlmanimdlcaa.Sg
open Go.RowKit Go.Proofs.Ytkinlmanimdlcaa.Wire

/-- piece k of the bytes b in pieces of n bytes, the first of which has the number f0 -/
def pc (f0 : Int) (b : ByteArray) (n k : Nat) : Seg := ⟨1, 2, (f0 + ((k * n : Nat) : Int)) % 4294967296, 0, false, decide (b.size ≤ k * n + n), false, false, 0, 0, false, [], b.extract (k * n) (min (k * n + n) b.size)⟩
theorem pc_ok (f0 : Int) (b : ByteArray) (n k : Nat) (hb : b.size ≤ 200) : (pc f0 b n k).ok := by
  refine ⟨⟨show (1 : Int) ≤ 1 ∧ (1 : Int) ≤ 65535 by omega, show (1 : Int) ≤ 2 ∧ (2 : Int) ≤ 65535 by omega, ?_, show (0 : Int) ≤ 0 ∧ (0 : Int) ≤ 4294967295 by omega, fun _ => rfl, show (0 : Int) ≤ 0 ∧ (0 : Int) ≤ 65535 by omega⟩, ⟨fun h => by simp [pc] at h, fun _ => rfl, fun _ => ⟨rfl, rfl⟩, Or.inl rfl⟩, ⟨⟨Nat.zero_le _, fun _ => rfl⟩, fun k x hk => by simp [pc] at hk⟩, ?_⟩
  · unfold pc; dsimp only; omega
  · unfold VS pc; simp only [Bool.or_self, Bool.false_eq_true, if_false, ByteArray.size_extract, List.length_nil]; omega
def encs (f0 : Int) (b : ByteArray) (n k : Nat) : List Value := (List.range k).map fun j => Value.string ⟨((pc f0 b n j).enc 3 4).toArray⟩
theorem encs_length (f0 : Int) (b : ByteArray) (n k : Nat) : (encs f0 b n k).length = k := by simp [encs]
theorem encs_succ (f0 : Int) (b : ByteArray) (n k : Nat) : encs f0 b n (k + 1) = encs f0 b n k ++ [Value.string ⟨((pc f0 b n k).enc 3 4).toArray⟩] := by simp [encs, List.range_succ]
theorem encs_at (f0 : Int) (b : ByteArray) (n k j : Nat) (h : j < k) : (encs f0 b n k)[j]? = some (Value.string ⟨((pc f0 b n j).enc 3 4).toArray⟩) := by simp [encs, h]
theorem own_below {W W' : World} {base e size n : Nat} {v : Value} {xs : List Value} (h : W.ownsRow base e size v n xs) (hb : Below W.heap.size W W') : W'.ownsRow base e size v n xs :=
  h.kept (row := none) ⟨hb.os, hb.tape, hb.output, hb.size, fun i hi _ => hb.block i hi⟩ (by cases v.ownBlock with
    | none => exact Or.inl rfl
    | some x => exact Or.inr (by simp))
theorem far_own {W W0 W' : World} {base e size n b : Nat} {v : Value} {xs : List Value} {o : Obj} (hrow : W0.ownsRow base e size v n xs) (hg : W.grownBy W' v.ownBlock) (h : W.heap[b]? = some o) (hlt : W0.heap.size ≤ b) : W'.heap[b]? = some o :=
  (hg.block b (blk_lt h) (fun q => by have := (hrow.lt _ q.symm).2; omega)).trans h
theorem infoStr : (Try.prog.info? 9).map (fun i => (i.zero, i.size, i.bytes)) = some (some (.string ⟨#[]⟩), 1, 16) := by kernel_rfl
theorem infoB : (Try.prog.info? 5).map (fun i => (i.zero, i.size, i.bytes)) = some (some (.int .u8 0), 1, 1) := by kernel_rfl

theorem own_form {W : World} {base k : Nat} {v : Value} {l : List Value} (h : W.ownsRow base 9 1 v k l) (hl : l.length = k) : ∃ (A : Option Addr) (cap : Nat), v = .slice A k cap ∧ (0 < k → ∃ g, A = some ⟨g, 0, none⟩ ∧ g < W.heap.size ∧ ∀ j u, l[j]? = some u → W.cell? ⟨g, j, none⟩ = some u) := by
  rcases h.2 with ⟨hv, h0⟩ | ⟨g, cap, cur, hv, hb, hg, -, -, -, hk⟩
  · subst h0
    exact ⟨none, 0, hv, fun h => absurd h (by omega)⟩
  · refine ⟨_, cap, hv, fun _ => ⟨g, rfl, blk_lt hg, fun j u hj => ?_⟩⟩
    have := h.cells (g := g) (by rw [hv]; rfl) j u hj
    by_cases h0 : j = 0
    · subst h0; simpa [Addr.add] using this
    · simpa [Addr.add, h0] using this
/-- the bytes f 0, f 1, .. as cells -/
def buf (f : Nat → UInt8) (n : Nat) : Array Value := ((List.range n).map fun j => Value.int .u8 ((f j).toNat : Int)).toArray
theorem buf_size (f : Nat → UInt8) (n : Nat) : (buf f n).size = n := by simp [buf]
theorem buf_at (f : Nat → UInt8) (n j : Nat) (h : j < n) : (buf f n)[j]? = some (Value.int .u8 ((f j).toNat : Int)) := by simp [buf, h]
theorem made0 (n : Nat) : madeCells (Value.int .u8 0).cells (n * 1) = buf (fun _ => 0) n := by
  apply Array.ext
  · simp [buf, madeCells, Value.cells]
  · intro i h1 h2
    simp only [buf, madeCells, Value.cells]
    simp [Nat.mod_one]
/-- f with the bytes of ps laid at o -/
def lay (f : Nat → UInt8) (ps : List UInt8) (o j : Nat) : Nat → UInt8 := fun p => if o ≤ p ∧ p < o + j then ps.getD (p - o) 0 else f p
theorem lay_zero (f : Nat → UInt8) (ps : List UInt8) (o : Nat) : lay f ps o 0 = f := by
  funext p; unfold lay; rw [if_neg (by omega)]
theorem buf_set (f : Nat → UInt8) (n : Nat) (ps : List UInt8) (o j : Nat) (v : UInt8) (hv : ps.getD j 0 = v) (_ : o + j < n) : (buf (lay f ps o j) n).setIfInBounds (o + j) (Value.int .u8 (v.toNat : Int)) = buf (lay f ps o (j + 1)) n := by
  apply Array.ext
  · simp [buf]
  · intro i h1 h2
    have hi : i < n := by simpa [buf] using h2
    rw [Array.getElem_setIfInBounds (by simpa [buf] using hi)]
    simp only [buf, List.getElem_toArray, List.getElem_map, List.getElem_range]
    unfold lay
    by_cases c : o + j = i
    · subst c
      rw [if_pos rfl, if_pos (by omega), Nat.add_sub_cancel_left, hv]
    · rw [if_neg c]
      by_cases c2 : o ≤ i ∧ i < o + j
      · rw [if_pos c2, if_pos (by omega)]
      · rw [if_neg c2, if_neg (by omega)]
/-- what has been done when the first t pieces (in the order turned by u) have come -/
def Vis (b : ByteArray) (n K u t z : Nat) (f : Nat → UInt8) : Prop := (∀ p, p < b.size → (∃ q, q < t ∧ (q + u) % K = p / n) → f p = b.data.toList.getD p 0) ∧ ((∃ q, q < t ∧ (q + u) % K = K - 1) → z = b.size + 1)
theorem vis_zero (b : ByteArray) (n K u : Nat) : Vis b n K u 0 0 (fun _ => 0) := ⟨fun _ _ ⟨q, h, _⟩ => by omega, fun ⟨q, h, _⟩ => by omega⟩
theorem div_range (p n k : Nat) (hn : 1 ≤ n) (h : k = p / n) : k * n ≤ p ∧ p < k * n + n := by
  subst h
  have h1 := Nat.div_add_mod p n
  have h2 := Nat.mod_lt p (show 0 < n by omega)
  rw [Nat.mul_comm] at h1
  omega
/-- one piece more -/
theorem vis_succ {b : ByteArray} {n K u t z e : Nat} {f : Nat → UInt8} (h : Vis b n K u t z f) (hn : 1 ≤ n) (hK : ∀ j, j < K → j * n < b.size) (hKb : b.size ≤ K * n) (k : Nat) (hk : (t + u) % K = k) (hkK : k < K) (he : e = min (k * n + n) b.size) (z' : Nat) (hz : z ≤ b.size + 1)
    (hz' : z' = max z (if b.size ≤ k * n + n then e + 1 else e)) : Vis b n K u (t + 1) z' (lay f (b.extract (k * n) e).data.toList (k * n) (e - k * n)) ∧ z' ≤ b.size + 1 := by
  have hkb := hK k hkK
  have hlay : ∀ p, k * n ≤ p → p < e → lay f (b.extract (k * n) e).data.toList (k * n) (e - k * n) p = b.data.toList.getD p 0 := by
    intro p h1 h2
    unfold lay
    rw [if_pos (by omega), ByteArray.data_extract]
    simp only [Array.toList_extract, List.getD_eq_getElem?_getD, List.extract_eq_take_drop, List.getElem?_take, List.getElem?_drop]
    rw [if_pos (by omega)]
    congr 2; omega
  refine ⟨⟨fun p hp ⟨q, hq, hqk⟩ => ?_, fun ⟨q, hq, hqk⟩ => ?_⟩, ?_⟩
  · by_cases hpk : k = p / n
    · obtain ⟨h1, h2⟩ := div_range p n k hn hpk
      exact hlay p h1 (by omega)
    · have hq' : q < t := by
        rcases Nat.lt_or_ge q t with c | c
        · exact c
        · obtain rfl : q = t := by omega
          omega
      rw [← h.1 p hp ⟨q, hq', hqk⟩]
      unfold lay
      rw [if_neg]
      intro hc
      apply hpk
      have : p < k * n + n := by omega
      rw [Nat.mul_comm] at hc this
      exact (Nat.div_eq_of_lt_le (by rw [Nat.mul_comm]; exact hc.1) (by rw [Nat.succ_mul, Nat.mul_comm]; exact this)).symm
  · rcases Nat.lt_or_ge q t with c | c
    · have := h.2 ⟨q, c, hqk⟩
      rw [hz', this]
      split <;> omega
    · obtain rfl : q = t := by omega
      have hkl : k = K - 1 := by omega
      have : K * n = k * n + n := by
        rw [hkl]
        have : K = (K - 1) + 1 := by omega
        conv => lhs; rw [this]
        rw [Nat.succ_mul]
      rw [hz', if_pos (by omega)]
      omega
  · rw [hz']; split <;> omega
theorem vis_all {b : ByteArray} {n K u z : Nat} {f : Nat → UInt8} (h : Vis b n K u K z f) (hKb : b.size ≤ K * n) (hp : 0 < b.size) : (∀ p, p < b.size → f p = b.data.toList.getD p 0) ∧ z = b.size + 1 := by
  have hK : 0 < K := by
    rcases Nat.eq_zero_or_pos K with c | c
    · subst c; omega
    · exact c
  have key : ∀ k, k < K → ∃ q, q < K ∧ (q + u) % K = k := by
    intro k hk
    have hu := Nat.mod_lt u hK
    refine ⟨(k + (K - u % K)) % K, Nat.mod_lt _ hK, ?_⟩
    rw [Nat.mod_add_mod, show k + (K - u % K) + u = k + K * (u / K + 1) by
      have := Nat.div_add_mod u K
      rw [Nat.mul_add]; omega, Nat.add_mul_mod_self_left]
    exact Nat.mod_eq_of_lt hk
  refine ⟨fun p hpb => h.1 p hpb (key _ ?_), h.2 (key _ (by omega))⟩
  exact Nat.div_lt_of_lt_mul (by rw [Nat.mul_comm]; omega)
theorem buf_str (b : ByteArray) (f : Nat → UInt8) (h : ∀ p, p < b.size → f p = b.data.toList.getD p 0) (W : World) (B : Nat) (hB : W.heap[B]? = some (.cells (buf f b.size) 5 (0, 0))) :
    (convert 38 9 (.slice (some ⟨B, 0, none⟩) b.size b.size)).run Try.prog W = .ok (.string b) W := by
  have hc : ∀ i, i < b.size → W.cell? ⟨B, 0 + i, none⟩ = some (.int .u8 ((b.data.toList.map fun c => (c.toNat : Int)).getD i 0)) := by
    intro i hi
    rw [Nat.zero_add, (cell_of_block hB (buf_at f b.size i hi)).1, h i hi]
    have hi' : i < b.data.toList.length := hi
    rw [List.getD_eq_getElem?_getD, List.getD_eq_getElem?_getD, List.getElem?_map, List.getElem?_eq_getElem hi']
    rfl
  rw [run_convert_bytes_arg W 38 5 Try.underlying38 Try.underlying5 B 0 b.size b.size (b.data.toList.map fun c => (c.toNat : Int)) (by rw [List.length_map]; rfl) hc 9 Try.underlying9]
  have e : strOfNums (b.data.toList.map fun c => (c.toNat : Int)) = b := by
    unfold strOfNums
    have e2 : (b.data.toList.map fun c => (c.toNat : Int)).map (fun n => UInt8.ofNat n.toNat) = b.data.toList := by
      rw [List.map_map]
      conv => rhs; rw [← List.map_id b.data.toList]
      apply List.map_congr_left
      intro c _
      simp
    rw [e2]
  rw [e]
set_option maxRecDepth 100000 in
set_option maxHeartbeats 4000000 in
theorem law28_any (s : ByteArray) (first lg turn : Int) (w : World) (hs : s.size ≤ 9223372036854775807) (_ : In64 first) (hlg : 0 ≤ lg ∧ lg ≤ 255) (htu : 0 ≤ turn ∧ turn ≤ 255) :
    Calls Try.prog 9 #[.string s, .int .i64 first, .int .u8 lg, .int .u8 turn] w fun e w' => e = .returned (.bool true) ∧ Below w.heap.size w w' := by
  obtain ⟨hl0, hl1⟩ := hlg
  obtain ⟨ht0, ht1⟩ := htu
  obtain ⟨j0, hj, jz0, jz1, jz2⟩ := info_parts infoStr
  have hmk : min (s.size : Int) 200 = ((min s.size 200 : Nat) : Int) := by omega
  have hb0 : (s.extract 0 (min s.size 200)).size ≤ 200 := by rw [ByteArray.size_extract]; omega
  have hms : min s.size 200 ≤ s.size := Nat.min_le_left _ _
  generalize min s.size 200 = mb at *
  have hmi : (mb : Int) ≤ (s.size : Int) := by omega
  have hmi0 : (0 : Int) ≤ (mb : Int) := by omega
  have HF := Lib.hid fun W => Seq.add_any first 0 W
  have hf0 : 0 ≤ Seq.add first 0 ∧ Seq.add first 0 < 4294967296 := by unfold Seq.add; omega
  generalize Seq.add first 0 = f0 at *
  obtain ⟨hf0, hf1⟩ := hf0
  have HB := Below.refl w.heap.size w
  go_enter Try.func9, Try.ntmps9
  go_wp2_with fail
  refine (examples_any _).mono ?_
  rintro e w1 ⟨rfl, hb⟩
  have HB' := below_call HB hb; clear HB hb; have HB := HB'; clear HB'; have hz := HB.size
  go_wp2_with fail
  generalize s.extract 0 mb = b at *
  have hn0 : 1 ≤ 1 + lg % 50 ∧ 1 + lg % 50 ≤ 50 := by omega
  generalize 1 + lg % 50 = ni at *
  obtain ⟨n, rfl⟩ := Int.eq_ofNat_of_zero_le (show 0 ≤ ni by omega)
  have hn1 : 1 ≤ n := by omega
  have hn2 : n ≤ 50 := by omega
  clear hn0 hmk hms hmi hmi0 hs
  refine (HF.out _).mono ?_
  rintro e w' ⟨rfl, rfl⟩
  go_wp2_with fail
  go_loopw [12, 13, 14] (fun at_ v i wr => ∃ (k m : Nat) (a : Int), m = k * n ∧ k ≤ m ∧ m < b.size + n ∧ i = .int .i64 (m : Int) ∧ at_ = .int .i64 a ∧ (m < b.size → a = (f0 + (m : Int)) % 4294967296) ∧ wr.ownsRow w1.heap.size 9 1 v k (encs f0 b n k) ∧ Below w.heap.size w wr ∧ w1.heap.size ≤ wr.heap.size) (fun _ _ i _ => b.size + 50 - (intOf i).toNat)
  case atStart => exact ⟨0, 0, f0, by omega, by omega, by omega, rfl, rfl, fun _ => by simp; omega, World.ownsRow_nil _ _ _ _, HB, Nat.le_refl _⟩
  case round =>
    clear HB
    obtain ⟨k, m, a, hm, hkm, hmn, rfl, rfl, ha, hown, HB, hwr⟩ := hrel
    have Hm := Lib.hid hm; have Ha := Lib.hid ha; have Hrow := Lib.hid hown; clear hm ha hown
    by_cases hlt : m < b.size
    · obtain ⟨fb, hfb⟩ : ∃ fb : Bool, decide ((b.size : Int) ≤ (m : Int) + (n : Int)) = fb := ⟨_, rfl⟩
      have Hpc : Hid (pc f0 b n k = ⟨1, 2, a, 0, false, fb, false, false, 0, 0, false, [], b.extract m (min (m + n) b.size)⟩) := Lib.hid (by
        have e : decide (b.size ≤ m + n) = fb := by rw [← hfb]; simp only [decide_eq_decide]; omega
        unfold pc
        rw [← Hm.out, ← Ha.out hlt, e])
      have hmin : min ((m : Int) + (n : Int)) (b.size : Int) = ((min (m + n) b.size : Nat) : Int) := by omega
      have Hln : Hid ((m + n < b.size → fb = false ∧ min (m + n) b.size = m + n)) := Lib.hid fun h => ⟨by rw [← hfb]; simp; omega, by omega⟩
      have he1 : m ≤ min (m + n) b.size := by omega
      have he2 : min (m + n) b.size ≤ b.size := by omega
      obtain ⟨E, HE, HEn, hEl⟩ : ∃ E : List UInt8, Hid (E = (pc f0 b n k).enc 3 4) ∧ Hid (∀ W, Calls Try.prog 14 #[.int .i64 3, .int .i64 4, .agg #[.int .i64 1, .int .i64 2, .int .i64 a, .int .i64 0, .bool false, .bool fb, .bool false, .bool false, .int .i64 0, .int .i64 0, .bool false, .slice none 0 0, .string (b.extract m (min (m + n) b.size))]] W fun e w' => e = .returned (.tuple #[.string ⟨E.toArray⟩, .int .i64 0]) ∧ Below W.heap.size W w') ∧ E.length ≤ 1100 := by
        refine ⟨_, Lib.hid rfl, Lib.hid fun W => ?_, enc_le _ _ _ (pc_ok f0 b n k hb0)⟩
        have h := enc_ok 3 4 (pc f0 b n k) none 0 W (by decide) (by decide) (pc_ok f0 b n k hb0) (bks_nil _ _)
        generalize (pc f0 b n k).enc 3 4 = E at h ⊢
        rw [Hpc.out] at h
        exact h
      generalize min (m + n) b.size = e at *
      have i1 : (m : Int) ≤ (e : Int) := by omega
      have i2 : (e : Int) ≤ (b.size : Int) := by omega
      have HL : Hid (∀ W, Calls Try.prog 20 #[.agg #[.int .i64 1, .int .i64 2, .int .i64 a, .int .i64 0, .bool false, .bool fb, .bool false, .bool false, .int .i64 0, .int .i64 0, .bool false, .slice none 0 0, .string (b.extract m e)]] W fun e_ w' => e_ = .returned (.int .i64 (if fb then ((b.extract m e).size : Int) + 1 else ((b.extract m e).size : Int))) ∧ Below W.heap.size W w') := Lib.hid fun W => by
        have h := len_any 1 2 a 0 false fb false false 0 0 false none 0 0 (b.extract m e) W (by rw [ByteArray.size_extract]; omega)
        rwa [Bool.false_or] at h
      have hsz : (b.extract m e).size = e - m := by rw [ByteArray.size_extract]; omega
      rw [hsz] at HL
      skip
      go_wp2_with fail
      refine (HEn.out _).mono ?_
      rintro e_ w2 ⟨rfl, hb⟩
      have Hx := Lib.hid (bblock hb (alloc_new wr (.cells #[.int .i64 1, .int .i64 2, .int .i64 a, .int .i64 0, .bool false, .bool fb, .bool false, .bool false, .int .i64 0, .int .i64 0, .bool false, .slice none 0 0, .string (b.extract m e)] 24)))
      have Hrow2 := Lib.hid (own_below (Hrow.out.alloc (.cells #[.int .i64 1, .int .i64 2, .int .i64 a, .int .i64 0, .bool false, .bool fb, .bool false, .bool false, .int .i64 0, .int .i64 0, .bool false, .slice none 0 0, .string (b.extract m e)] 24)) hb)
      have HB2 := below_call (below_alloc (o := (.cells #[.int .i64 1, .int .i64 2, .int .i64 a, .int .i64 0, .bool false, .bool fb, .bool false, .bool false, .int .i64 0, .int .i64 0, .bool false, .slice none 0 0, .string (b.extract m e)] 24)) HB) hb
      have hz2 : wr.heap.size + 1 ≤ w2.heap.size := by have := hb.size; simpa using this
      clear hb
      go_wp2_with (at_builtin; refine wpList_append_own _ rfl _ _ 39 rfl w1.heap.size 9 j0 (.string ⟨#[]⟩) 1 16 Try.underlying39 hj jz0 jz1 jz2 rfl (by decide) _ k (encs f0 b n k) rfl (Hrow2.out.alloc _) ⟨w2.heap.size, 0, none⟩ 1 1 [.string ⟨E.toArray⟩] rfl rfl (World.news_of_block (alloc_new w2 (.cells #[.string ⟨E.toArray⟩] 9))) (by simp [Value.oneCell']) (by unfold maxLen; omega) (by omega) (by first | (simp; done) | (simp; omega)) ?_; intro v' w3 hown' hgrow _; have Hx3 := Lib.hid (far_own Hrow.out hgrow (block_alloc Hx.out _) (Nat.le_refl _)); have HB3 := (below_alloc HB2).grown hgrow (by have := HB2.size; simp; omega) (fun q hq => by have := (Hrow.out.lt q hq).1; omega); have hz3 : w2.heap.size + 1 ≤ w3.heap.size := (by have := hgrow.size; simpa using this); have Hown := Lib.hid hown'; clear hown' hgrow; have qx0 := (cell_of_block (k := 0) Hx3.out rfl).1; have zx0 := (cell_of_block (k := 0) Hx3.out rfl).2; have qx1 := (cell_of_block (k := 1) Hx3.out rfl).1; have zx1 := (cell_of_block (k := 1) Hx3.out rfl).2; have qx2 := (cell_of_block (k := 2) Hx3.out rfl).1; have zx2 := (cell_of_block (k := 2) Hx3.out rfl).2; have qx3 := (cell_of_block (k := 3) Hx3.out rfl).1; have zx3 := (cell_of_block (k := 3) Hx3.out rfl).2; have qx4 := (cell_of_block (k := 4) Hx3.out rfl).1; have zx4 := (cell_of_block (k := 4) Hx3.out rfl).2; have qx5 := (cell_of_block (k := 5) Hx3.out rfl).1; have zx5 := (cell_of_block (k := 5) Hx3.out rfl).2; have qx6 := (cell_of_block (k := 6) Hx3.out rfl).1; have zx6 := (cell_of_block (k := 6) Hx3.out rfl).2; have qx7 := (cell_of_block (k := 7) Hx3.out rfl).1; have zx7 := (cell_of_block (k := 7) Hx3.out rfl).2; have qx8 := (cell_of_block (k := 8) Hx3.out rfl).1; have zx8 := (cell_of_block (k := 8) Hx3.out rfl).2; have qx9 := (cell_of_block (k := 9) Hx3.out rfl).1; have zx9 := (cell_of_block (k := 9) Hx3.out rfl).2; have qx10 := (cell_of_block (k := 10) Hx3.out rfl).1; have zx10 := (cell_of_block (k := 10) Hx3.out rfl).2; have qx11 := (cell_of_block (k := 11) Hx3.out rfl).1; have zx11 := (cell_of_block (k := 11) Hx3.out rfl).2; have qx12 := (cell_of_block (k := 12) Hx3.out rfl).1; have zx12 := (cell_of_block (k := 12) Hx3.out rfl).2)
      clear qx0 zx0 qx1 zx1 qx2 zx2 qx3 zx3 qx4 zx4 qx5 zx5 qx6 zx6 qx7 zx7 qx8 zx8 qx9 zx9 qx10 zx10 qx11 zx11 qx12 zx12
      refine (HL.out _).mono ?_
      rintro e_ w4 ⟨rfl, hb⟩
      have Hown4 := Lib.hid (own_below Hown.out hb)
      have HB4 := below_call HB3 hb
      have hz4 := hb.size
      clear hb
      have Hl : Hid (m + n < b.size → (if fb then ((e - m : Nat) : Int) + 1 else ((e - m : Nat) : Int)) = (n : Int)) := Lib.hid fun h => by
        obtain ⟨h1, h2⟩ := Hln.out h
        rw [h1, h2]
        simp
      generalize (if fb then ((e - m : Nat) : Int) + 1 else ((e - m : Nat) : Int)) = ln at *
      go_wp2_with fail
      refine (Seq.add_any a ln _).mono ?_
      rintro e_ w' ⟨rfl, rfl⟩
      go_wp2_with fail
      go_roundw
      case rel =>
        refine ⟨k + 1, m + n, Seq.add a ln, by rw [Hm.out, Nat.succ_mul], by omega, by omega, by go_num, rfl, fun h => ?_, by rw [encs_succ, ← HE.out]; exact Hown4.out, HB4, by omega⟩
        rw [Hl.out h, Ha.out hlt]
        unfold Seq.add
        omega
      case measure => simp [intOf]; omega
    · obtain ⟨w5, rfl⟩ : ∃ wo : World, wo = wr := ⟨_, rfl⟩
      have HKb : Hid (b.size ≤ k * n ∧ ∀ j, j < k → j * n < b.size) := Lib.hid ⟨by rw [← Hm.out]; omega, fun j hj => by
        have h1 : (j + 1) * n ≤ k * n := Nat.mul_le_mul_right n hj
        rw [Nat.succ_mul, ← Hm.out] at h1
        omega⟩
      have hk2 : k ≤ 250 := by omega
      clear Ha
      obtain ⟨i0, hi, hz0, hz1, hz2⟩ := info_parts infoB
      have hmk := run_make (P := Try.prog) w5 38 5 i0 (.int .u8 0) Try.underlying38 hi hz0 .i64 .i64 (b.size : Int) (b.size : Int) (by omega) (Int.le_refl _) (by rw [hz2]; omega) (by omega)
      rw [hz1, Int.toNat_natCast, made0] at hmk
      clear hi hz0 hz1 hz2
      have hbuf : (w5.alloc (.cells (buf (fun _ => 0) b.size) 5)).heap[w5.heap.size]? = some (.cells (buf (fun _ => 0) b.size) 5) := alloc_new w5 _
      have HBr := below_alloc (o := (.cells (buf (fun _ => 0) b.size) 5)) (Below.refl w5.heap.size w5)
      obtain ⟨A, cap, rfl, hstr⟩ := own_form Hrow.out (encs_length f0 b n k)
      have Hstr := Lib.hid hstr; clear hstr Hrow Hm
      have HBf := Lib.hid hbuf; clear hbuf
      obtain ⟨tu, rfl⟩ := Int.eq_ofNat_of_zero_le ht0
      go_wp2_with fail
      clear hmk
      go_loopw [19, 20] (fun en i wl => ∃ (t z : Nat) (f : Nat → UInt8), t ≤ k ∧ i = .int .i64 (t : Int) ∧ en = .int .i64 (z : Int) ∧ z ≤ b.size + 1 ∧ Vis b n k tu t z f ∧ wl.heap[w5.heap.size]? = some (.cells (buf f b.size) 5) ∧ Below w5.heap.size w5 wl ∧ w5.heap.size < wl.heap.size) (fun _ i _ => k - (intOf i).toNat)
      case atStart => exact ⟨0, 0, fun _ => 0, by omega, rfl, rfl, by omega, vis_zero b n k tu, HBf.out, HBr, blk_lt HBf.out⟩
      case round =>
        clear HBf HBr
        obtain ⟨t, z, f, ht, rfl, rfl, hz, hvis, hbf, HBr, hwl⟩ := hrel
        obtain ⟨wo, rfl⟩ : ∃ wo : World, wo = wr := ⟨_, rfl⟩
        have HV := Lib.hid hvis; have HBf := Lib.hid hbf; clear hvis hbf
        by_cases htk : t < k
        · obtain ⟨ix, hix⟩ : ∃ ix : Nat, (t + tu) % k = ix := ⟨_, rfl⟩
          have hixk : ix < k := by rw [← hix]; exact Nat.mod_lt _ (by omega)
          have HIX := Lib.hid hix
          have hixi : ((t : Int) + (tu : Int)) % (k : Int) = (ix : Int) := by rw [← hix, Int.natCast_emod, Int.natCast_add]
          clear hix
          have hix0 : (0 : Int) ≤ (ix : Int) := by omega
          have hix1 : (ix : Int) < (k : Int) := by omega
          obtain ⟨g, rfl, hg, hgs⟩ := Hstr.out (by omega)
          have qg : wo.cell? ⟨g, ix, none⟩ = some (.string ⟨((pc f0 b n ix).enc 3 4).toArray⟩) := (HBr.cell (p := ⟨g, ix, none⟩) hg).trans (hgs ix _ (encs_at f0 b n k ix hixk))
          have hon := HKb.out.2 ix hixk
          have hpc := pc_ok f0 b n ix hb0
          obtain ⟨e, he⟩ : ∃ e : Nat, min (ix * n + n) b.size = e := ⟨_, rfl⟩
          obtain ⟨fb, hfb⟩ : ∃ fb : Bool, decide (b.size ≤ ix * n + n) = fb := ⟨_, rfl⟩
          obtain ⟨o, ho⟩ : ∃ o : Nat, ix * n = o := ⟨_, rfl⟩
          have hpe : pc f0 b n ix = ⟨1, 2, (f0 + (o : Int)) % 4294967296, 0, false, fb, false, false, 0, 0, false, [], b.extract o e⟩ := by
            unfold pc; rw [he, hfb, ho]
          have HDec : Hid (∀ W, Calls Try.prog 22 #[.int .i64 3, .int .i64 4, .string ⟨((pc f0 b n ix).enc 3 4).toArray⟩] W fun e_ w' => (∃ (A : Option Addr) (c : Nat), e_ = .returned (.tuple #[.agg #[.int .i64 1, .int .i64 2, .int .i64 ((f0 + (o : Int)) % 4294967296), .int .i64 0, .bool false, .bool fb, .bool false, .bool false, .int .i64 0, .int .i64 0, .bool false, .slice A 0 c, .string (b.extract o e)], .int .i64 0])) ∧ Below W.heap.size W w') := Lib.hid fun W => by
            refine (Dec_yes 3 4 ⟨((pc f0 b n ix).enc 3 4).toArray⟩ W (by rw [sz]; have := enc_le 3 4 _ hpc; omega) (by decide) (by decide) (enc_decOk 3 4 _ hpc)).mono ?_
            rintro e_ w' ⟨A, c, rfl, -, hB⟩
            rw [(dec_enc 3 4 _ hpc).1, hpe]
            exact ⟨⟨A, c, rfl⟩, hB⟩
          have heo : o < e ∧ e ≤ b.size ∧ e ≤ o + n := by omega
          obtain ⟨le, hle⟩ : ∃ le : Nat, e - o = le := ⟨_, rfl⟩
          have hsz : (b.extract o e).size = le := by rw [ByteArray.size_extract]; omega
          obtain ⟨ps, hps⟩ : ∃ ps : ByteArray, b.extract o e = ps := ⟨_, rfl⟩
          have HO := Lib.hid ho; have HE := Lib.hid he; have HFB := Lib.hid hfb; have HPS := Lib.hid hps; have HLE := Lib.hid hle
          clear hpe hpc
          rw [hps] at HDec hsz
          generalize (pc f0 b n ix).enc 3 4 = E at qg HDec
          have hole : o + le ≤ b.size := by omega
          have hle1 : le ≤ 50 := by omega
          have hob : o ≤ 200 := by omega
          have HDf : Hid (∀ W, Calls Try.prog 27 #[.int .i64 ((f0 + (o : Int)) % 4294967296), .int .i64 f0] W fun e_ w' => e_ = .returned (.int .i64 (o : Int)) ∧ W = w') := Lib.hid fun W => by
            have h := Seq.diff_any ((f0 + (o : Int)) % 4294967296) f0 W
            rwa [show Seq.diff ((f0 + (o : Int)) % 4294967296) f0 = (o : Int) by unfold Seq.diff Seq.ahead; split <;> omega] at h
          clear ho he hfb hps hle hon heo
          generalize (f0 + (o : Int)) % 4294967296 = a' at *
          obtain ⟨ln, hln⟩ : ∃ ln : Nat, (if fb then le + 1 else le) = ln := ⟨_, rfl⟩
          have HLN := Lib.hid hln
          have hlnb : ln ≤ 51 := by rw [← hln]; split <;> omega
          have HLn : Hid (∀ W (Ac : Option Addr) (cc : Nat), Calls Try.prog 20 #[.agg #[.int .i64 1, .int .i64 2, .int .i64 a', .int .i64 0, .bool false, .bool fb, .bool false, .bool false, .int .i64 0, .int .i64 0, .bool false, .slice Ac 0 cc, .string ps]] W fun e_ w' => e_ = .returned (.int .i64 (ln : Int)) ∧ Below W.heap.size W w') := Lib.hid fun W Ac cc => by
            have h := len_any 1 2 a' 0 false fb false false 0 0 false Ac 0 cc ps W (by omega)
            rw [Bool.false_or, hsz] at h
            have e : (if fb = true then ((le : Nat) : Int) + 1 else (le : Int)) = (ln : Int) := by rw [← hln]; split <;> simp
            rwa [e] at h
          obtain ⟨z2, hz2⟩ : ∃ z2 : Nat, max z (o + ln) = z2 := ⟨_, rfl⟩
          have hmax : max (z : Int) ((o : Int) + (ln : Int)) = (z2 : Int) := by omega
          have HZ := Lib.hid hz2
          clear hln hz2
          go_wp2_with fail
          clear qg hixi hix0 hix1
          refine (HDec.out _).mono ?_
          rintro e_ w6 ⟨⟨Ac, cc, rfl⟩, hb⟩
          have Hx := Lib.hid (alloc_new w6 (.cells #[.int .i64 1, .int .i64 2, .int .i64 a', .int .i64 0, .bool false, .bool fb, .bool false, .bool false, .int .i64 0, .int .i64 0, .bool false, .slice Ac 0 cc, .string ps] 24))
          have HBf6 := Lib.hid (block_alloc (bblock hb HBf.out) (.cells #[.int .i64 1, .int .i64 2, .int .i64 a', .int .i64 0, .bool false, .bool fb, .bool false, .bool false, .int .i64 0, .int .i64 0, .bool false, .slice Ac 0 cc, .string ps] 24)); clear HBf
          have HBr6 := below_alloc (o := (.cells #[.int .i64 1, .int .i64 2, .int .i64 a', .int .i64 0, .bool false, .bool fb, .bool false, .bool false, .int .i64 0, .int .i64 0, .bool false, .slice Ac 0 cc, .string ps] 24)) (below_call HBr hb); clear HBr
          have hw6 : w5.heap.size < w6.heap.size := by have := hb.size; omega
          clear hb
          go_wp2_with fail
          have hx6 : w6.heap.size < (w6.alloc (.cells #[.int .i64 1, .int .i64 2, .int .i64 a', .int .i64 0, .bool false, .bool fb, .bool false, .bool false, .int .i64 0, .int .i64 0, .bool false, .slice Ac 0 cc, .string ps] 24)).heap.size := by simp
          generalize w6.heap.size = Bx at *
          generalize w6.alloc (.cells #[.int .i64 1, .int .i64 2, .int .i64 a', .int .i64 0, .bool false, .bool fb, .bool false, .bool false, .int .i64 0, .int .i64 0, .bool false, .slice Ac 0 cc, .string ps] 24) = w7 at *
          have gx2 : Hid (w7.cell? ⟨Bx, 2, none⟩ = some (.int .i64 a')) := Lib.hid (cell_of_block (k := 2) Hx.out rfl).1
          go_region_held3 (fun w' => w'.cell? ⟨Bx, 2, none⟩ = some (.int .i64 a')) (exact gx2.out)
            (first | (go_at_call 26; refine (HF.out _).mono ?_; rintro e_ w' ⟨rfl, rfl⟩) | (go_at_call 27; refine (HDf.out _).mono ?_; rintro e_ w' ⟨rfl, rfl⟩))
          have Hx8 : Hid (w7.drew.heap[Bx]? = some (.cells #[.int .i64 1, .int .i64 2, .int .i64 a', .int .i64 0, .bool false, .bool fb, .bool false, .bool false, .int .i64 0, .int .i64 0, .bool false, .slice Ac 0 cc, .string ps] 24)) := Hx
          have HBf8 : Hid (w7.drew.heap[w5.heap.size]? = some (.cells (buf f b.size) 5)) := HBf6
          have HBr8 := HBr6.drew
          clear gx2 Hx HBf6 HBr6
          generalize w7.drew = w8 at *
          have qx12 := (cell_of_block (k := 12) Hx8.out rfl).1; have zx12 := (cell_of_block (k := 12) Hx8.out rfl).2
          have hpl : (ps.size : Int) = (le : Int) := by omega
          go_wp2_with fail
          clear qx12 zx12 hpl
          go_loopw [24] (fun kk wi => ∃ j : Nat, j ≤ le ∧ kk = .int .i64 (j : Int) ∧ wi.heap[w5.heap.size]? = some (.cells (buf (lay f ps.data.toList o j) b.size) 5) ∧ wi.heap[Bx]? = some (.cells #[.int .i64 1, .int .i64 2, .int .i64 a', .int .i64 0, .bool false, .bool fb, .bool false, .bool false, .int .i64 0, .int .i64 0, .bool false, .slice Ac 0 cc, .string ps] 24) ∧ Below w5.heap.size w5 wi) (fun kk _ => le - (intOf kk).toNat)
          case atStart => exact ⟨0, by omega, rfl, by rw [lay_zero]; exact HBf8.out, Hx8.out, HBr8⟩
          case round =>
            clear HBf8 Hx8 HBr8
            obtain ⟨j, hj, rfl, hbf, hx, HBi⟩ := hrel
            obtain ⟨wi, rfl⟩ : ∃ wo : World, wo = wr := ⟨_, rfl⟩
            have HBf := Lib.hid hbf; have Hx := Lib.hid hx; clear hbf hx
            have qx12 := (cell_of_block (k := 12) Hx.out rfl).1; have zx12 := (cell_of_block (k := 12) Hx.out rfl).2
            have hpl : (ps.size : Int) = (le : Int) := by omega
            by_cases hjl : j < le
            · have hjp : j < ps.size := by omega
              have hoj : o + j < b.size := by omega
              have c0 := (cell_of_block (k := o + j) HBf.out (buf_at _ b.size (o + j) hoj)).1
              have f0_ := (cell_of_block (k := o + j) HBf.out (buf_at _ b.size (o + j) hoj)).2
              have n1 : ((o : Int) + (j : Int)).toNat = o + j := by omega
              have n2 : (0 : Int) ≤ (o : Int) + (j : Int) := by omega
              have n3 : (o : Int) + (j : Int) < (b.size : Int) := by omega
              go_wp2_with fail
              have HBfn := Lib.hid (buf_set f b.size ps.data.toList o j ps[j] (getD_lt ps j hjp) hoj)
              go_roundw
              case rel => exact ⟨j + 1, by omega, by go_num, by rw [← HBfn.out]; exact block_setCell HBf.out, block_set_other Hx.out (by show w5.heap.size ≠ Bx; omega), Below.setCell HBi (Nat.le_refl _) _⟩
              case measure => simp [intOf]; omega
            · obtain rfl : j = le := by omega
              have qy0 := (cell_of_block (k := 0) Hx.out rfl).1; have zy0 := (cell_of_block (k := 0) Hx.out rfl).2; have qy1 := (cell_of_block (k := 1) Hx.out rfl).1; have zy1 := (cell_of_block (k := 1) Hx.out rfl).2; have qy2 := (cell_of_block (k := 2) Hx.out rfl).1; have zy2 := (cell_of_block (k := 2) Hx.out rfl).2; have qy3 := (cell_of_block (k := 3) Hx.out rfl).1; have zy3 := (cell_of_block (k := 3) Hx.out rfl).2; have qy4 := (cell_of_block (k := 4) Hx.out rfl).1; have zy4 := (cell_of_block (k := 4) Hx.out rfl).2; have qy5 := (cell_of_block (k := 5) Hx.out rfl).1; have zy5 := (cell_of_block (k := 5) Hx.out rfl).2; have qy6 := (cell_of_block (k := 6) Hx.out rfl).1; have zy6 := (cell_of_block (k := 6) Hx.out rfl).2; have qy7 := (cell_of_block (k := 7) Hx.out rfl).1; have zy7 := (cell_of_block (k := 7) Hx.out rfl).2; have qy8 := (cell_of_block (k := 8) Hx.out rfl).1; have zy8 := (cell_of_block (k := 8) Hx.out rfl).2; have qy9 := (cell_of_block (k := 9) Hx.out rfl).1; have zy9 := (cell_of_block (k := 9) Hx.out rfl).2; have qy10 := (cell_of_block (k := 10) Hx.out rfl).1; have zy10 := (cell_of_block (k := 10) Hx.out rfl).2; have qy11 := (cell_of_block (k := 11) Hx.out rfl).1; have zy11 := (cell_of_block (k := 11) Hx.out rfl).2
              go_wp2_with fail
              clear qx12 zx12 qy0 zy0 qy1 zy1 qy2 zy2 qy3 zy3 qy4 zy4 qy5 zy5 qy6 zy6 qy7 zy7 qy8 zy8 qy9 zy9 qy10 zy10 qy11 zy11
              refine (HLn.out _ _ _).mono ?_
              rintro e_ w9 ⟨rfl, hb⟩
              have HBf9 := Lib.hid (bblock hb HBf.out); clear HBf
              have HBr9 := below_call HBi hb; clear HBi hb
              go_wp2_with fail
              have hkey := vis_succ HV.out hn1 HKb.out.2 HKb.out.1 ix HIX.out hixk (by rw [HE.out]) z2 hz (by
                have h1 := HFB.out
                have h2 := HE.out
                have h3 := HO.out
                have h4 := HLE.out
                have h5 := HKb.out.2 ix hixk
                rw [← HZ.out, ← HLN.out]
                cases fb with
                | false =>
                  have h6 : ¬ b.size ≤ ix * n + n := of_decide_eq_false h1
                  rw [if_neg h6]
                  simp only [Bool.false_eq_true, if_false]
                  omega
                | true =>
                  have h6 : b.size ≤ ix * n + n := of_decide_eq_true h1
                  rw [if_pos h6]
                  simp only [if_true]
                  omega)
              go_roundw
              case rel =>
                obtain ⟨hv, hzz⟩ := hkey
                rw [HO.out, HPS.out, HLE.out] at hv
                exact ⟨t + 1, z2, _, by omega, by go_num, rfl, hzz, hv, HBf9.out, HBr9, blk_lt HBf9.out⟩
              case measure => simp [intOf]; omega
        · obtain rfl : t = k := by omega
          have hcs := buf_str b f (fun p hp => (vis_all HV.out HKb.out.1 (by omega)).1 p hp) wo w5.heap.size HBf.out
          by_cases hb00 : b.size = 0
          · have hb0b : ((b.size : Int) == 0) = true := by rw [hb00]; rfl
            have H0 := Lib.hid hb00; clear hb00
            go_wp2_with fail
            go_ret
            exact ⟨rfl, below_call HB HBr⟩
          · have hb0b : ((b.size : Int) == 0) = false := beq_eq_false_iff_ne.2 (by omega)
            have hz1 : ((z : Int) == (b.size : Int) + 1) = true := by
              have := (vis_all HV.out HKb.out.1 (by omega)).2
              rw [this]; simp
            go_wp2_with fail
            go_ret
            exact ⟨rfl, below_call HB HBr⟩
end Go.Proofs.Ytkinlmanimdlcaa.Sg
