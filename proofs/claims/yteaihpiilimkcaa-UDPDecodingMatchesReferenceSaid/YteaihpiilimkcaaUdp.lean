/-
  Contracts of package udp.
-/
import Derived.Test.YteaihpiilimkcaaCheck
import Derived.Test.YteaihpiilimkcaaShelf
import Derived.Deep.RegionHeld3
import Derived.Deep.RegionWith
import Derived.Deep.DeepMust
namespace Go.Proofs.Yteaihpiilimkcaa.Udp
open Go.RowKit Go.Proofs.Yteaihpiilimkcaa.Wire

def portB (n : Int) : Bool := decide (1 ≤ n) && decide (n ≤ 65535)
def addrB (n : Int) : Bool := decide (0 ≤ n) && decide (n ≤ 4294967295)
def validB (f t : Int) (k : Nat) : Bool := portB f && portB t && decide (k ≤ 2000)

set_option maxHeartbeats 400000 in
theorem isPort_any (n : Int) (w : World) : Calls Try.prog 22 #[.int .i64 n] w fun e w' => e = .returned (.bool (portB n)) ∧ w = w' := by
  go_enter Try.func22, Try.ntmps22
  go_wp2
  all_goals
    go_ret
    exact ⟨ret_bool (by simp [portB]; try omega), rfl⟩

set_option maxHeartbeats 400000 in
theorem addrValid_any (n : Int) (w : World) : Calls Try.prog 26 #[.int .i64 n] w fun e w' => e = .returned (.bool (addrB n)) ∧ w = w' := by
  go_enter Try.func26, Try.ntmps26
  go_wp2
  all_goals
    go_ret
    exact ⟨ret_bool (by simp [addrB]; try omega), rfl⟩

set_option maxHeartbeats 400000 in
theorem valid_any (f t : Int) (s : ByteArray) (w : World) (hs : s.size ≤ 9223372036854775807) : Calls Try.prog 14 #[.agg #[.int .i64 f, .int .i64 t, .string s]] w fun e w' => e = .returned (.bool (validB f t s.size)) ∧ Below w.heap.size w w' := by
  cases h1 : portB f <;> cases h2 : portB t
  all_goals
    go_enter Try.func14, Try.ntmps14
    go_wp2_with (go_at_call 22; refine (isPort_any _ _).mono ?_; rintro e w' ⟨rfl, rfl⟩)
    go_ret
    exact ⟨ret_bool (by simp [validB, h1, h2]; try omega), (Below.refl _ _).alloc (Nat.le_refl _) _⟩

theorem number_any (n k : Int) (w : World) (hk : k = 1 ∨ k = 2 ∨ k = 4) (h0 : 0 ≤ n) (h1 : n < 256 ^ k.toNat) :
    Calls Try.prog 27 #[.int .i64 n, .int .i64 k] w fun e w' => e = .returned (.string ⟨(be k.toNat n).toArray⟩) ∧ Below w.heap.size w w' := by
  have hp : Calls Try.prog 31 #[.int .i64 n, .int .i64 k] w fun e w' => e = .returned (.tuple #[.string ⟨(be k.toNat n).toArray⟩, .int .i64 0]) ∧ Below w.heap.size w w' := by
    rcases hk with rfl | rfl | rfl
    · exact put1 n w h0 (by simpa using h1)
    · exact put2 n w h0 (by simpa using h1)
    · exact put4 n w h0 (by simpa using h1)
  have Hp := Lib.hid hp
  clear hp hk h0 h1
  generalize be k.toNat n = l at *
  go_enter Try.func27, Try.ntmps27
  go_wp2_with (go_at_call 31; refine (Hp.out).mono ?_; rintro e w' ⟨rfl, hb⟩)
  go_ret
  exact ⟨rfl, hb⟩

theorem join_nil (xs : List (List UInt8)) : Lib.join xs [] = xs.flatten := by
  cases xs with
  | nil => rfl
  | cons x r => rw [Lib.join_cons]; simp [Lib.joinTail]

theorem sum_any (bk c : Nat) (xs : List ByteArray) (w : World) (hcells : ∀ (j : Nat) x, xs[j]? = some x → w.cell? ⟨bk, 0 + j, none⟩ = some (.string x)) (hbk : bk < w.heap.size) (hN : xs.length ≤ 100) (hcap : xs.length ≤ c) (hlen : ((xs.map (·.data.toList)).flatten).length ≤ 1000000) :
    Calls Try.prog 28 #[.slice (some ⟨bk, 0, none⟩) xs.length c] w fun e w' => e = .returned (.int .i64 (csum ⟨((xs.map (·.data.toList)).flatten).toArray⟩)) ∧ Below w.heap.size w w' := by
  have hj := Try.strings_Join bk 0 c xs ⟨#[]⟩ w hcells hbk (by omega) hcap (by show (Lib.join _ []).length ≤ _; rw [join_nil]; omega)
  have e0 : (⟨#[]⟩ : ByteArray).data.toList = [] := rfl
  rw [e0, join_nil] at hj
  have Hj := Lib.hid hj
  clear hj hcells e0
  generalize hL : (xs.map (·.data.toList)).flatten = L at *
  have hc := Wire.checksum_any ⟨L.toArray⟩ (by simpa [ByteArray.size] using hlen)
  have Hc := Lib.hid hc
  clear hc hL
  go_enter Try.func28, Try.ntmps28
  go_wp2_with fail
  refine (Hj.out).mono ?_
  rintro e w1 ⟨rfl, hb1⟩
  go_wp2_with fail
  refine (Hc.out _).mono ?_
  rintro e w2 ⟨rfl, hb2⟩
  go_wp2_with fail
  go_ret
  exact ⟨rfl, hb1.trans (hb2.mono hb1.size)⟩

/-- the header without the checksum -/
def head (f t : Int) (n : Nat) : List UInt8 := be 2 f ++ be 2 t ++ be 2 (8 + n)
def pseudo (a b : Int) (n : Nat) : List UInt8 := be 4 a ++ be 4 b ++ be 1 0 ++ be 1 17 ++ be 2 (8 + n)
def sumOf (a b f t : Int) (l : List UInt8) : Int := csum ⟨(pseudo a b l.length ++ head f t l.length ++ be 2 0 ++ l).toArray⟩
def enc (a b f t : Int) (l : List UInt8) : List UInt8 := head f t l.length ++ be 2 (sumOf a b f t l) ++ l

def cat7 (x0 x1 x2 x3 x4 x5 x6 : ByteArray) : ByteArray := ⟨(x0.data.toList ++ x1.data.toList ++ x2.data.toList ++ x3.data.toList ++ x4.data.toList ++ x5.data.toList ++ x6.data.toList).toArray⟩
theorem sum7 (bk : Nat) (x0 x1 x2 x3 x4 x5 x6 : ByteArray) (t : TypeId) (w : World) (hc : w.heap[bk]? = some (.cells #[.string x0, .string x1, .string x2, .string x3, .string x4, .string x5, .string x6] t (0, 0))) (hl : x0.size + x1.size + x2.size + x3.size + x4.size + x5.size + x6.size ≤ 1000000) :
    Calls Try.prog 28 #[.slice (some ⟨bk, 0, none⟩) 7 7] w fun e w' => e = .returned (.int .i64 (csum (cat7 x0 x1 x2 x3 x4 x5 x6))) ∧ Below w.heap.size w w' := by
  have e : (([x0, x1, x2, x3, x4, x5, x6] : List ByteArray).map (·.data.toList)).flatten = x0.data.toList ++ x1.data.toList ++ x2.data.toList ++ x3.data.toList ++ x4.data.toList ++ x5.data.toList ++ x6.data.toList := by simp
  have h := sum_any bk 7 [x0, x1, x2, x3, x4, x5, x6] w ?_ (Array.getElem?_eq_some_iff.1 hc).1 (by simp) (by simp) (by
    rw [e]; simp only [List.length_append]
    have z : ∀ x : ByteArray, x.data.toList.length = x.size := fun _ => rfl
    simp only [z]; omega)
  · rw [e] at h; exact h
  · intro j x hj
    rw [Nat.zero_add]
    simp only [World.cell?, hc]
    match j, hj with
    | 0, hj => cases hj; rfl
    | 1, hj => cases hj; rfl
    | 2, hj => cases hj; rfl
    | 3, hj => cases hj; rfl
    | 4, hj => cases hj; rfl
    | 5, hj => cases hj; rfl
    | 6, hj => cases hj; rfl

/-- what a call of checksum leaves, its result a letter -/
def SumPost (x : ByteArray) (w : World) (e : Ending) (w' : World) : Prop := ∃ m : Int, e = .returned (.int .i64 m) ∧ Hid (m = csum x) ∧ 0 ≤ m ∧ m ≤ 65535 ∧ Below w.heap.size w w'
theorem csum_bd (s : ByteArray) : 0 ≤ csum s ∧ csum s ≤ 65535 := by
  have h := total_bd s ((s.size + 1) / 2)
  unfold csum wsum fold
  split <;> omega
theorem sum7' (bk : Nat) (x0 x1 x2 x3 x4 x5 x6 : ByteArray) (t : TypeId) (w : World) (hc : w.heap[bk]? = some (.cells #[.string x0, .string x1, .string x2, .string x3, .string x4, .string x5, .string x6] t (0, 0))) (hl : x0.size + x1.size + x2.size + x3.size + x4.size + x5.size + x6.size ≤ 1000000) :
    Calls Try.prog 28 #[.slice (some ⟨bk, 0, none⟩) 7 7] w (SumPost (cat7 x0 x1 x2 x3 x4 x5 x6) w) :=
  (sum7 bk x0 x1 x2 x3 x4 x5 x6 t w hc hl).mono fun _ _ ⟨he, hb⟩ => ⟨_, he, Lib.hid rfl, (csum_bd _).1, (csum_bd _).2, hb⟩

theorem enc_eq (a b f t : Int) (l : List UInt8) : (⟨(be 2 f).toArray⟩ ++ ⟨(be 2 t).toArray⟩ ++ ⟨(be 2 (8 + l.length)).toArray⟩ ++ ⟨(be 2 (sumOf a b f t l)).toArray⟩ ++ ⟨l.toArray⟩ : ByteArray) = ⟨(enc a b f t l).toArray⟩ := by
  simp only [ba_append, enc, head]

set_option maxRecDepth 100000 in
set_option maxHeartbeats 2000000 in
theorem encode_ok (a b f t : Int) (s : ByteArray) (w : World) (hv : validB f t s.size = true) (ha : addrB a = true) (hb : addrB b = true) (ha0 : (a == 0) = false) (hb0 : (b == 0) = false) :
    Calls Try.prog 19 #[.int .i64 a, .int .i64 b, .agg #[.int .i64 f, .int .i64 t, .string s]] w fun e w' => e = .returned (.string ⟨(enc a b f t s.data.toList).toArray⟩) ∧ Below w.heap.size w w' := by
  have hs : s.size ≤ 2000 := by simp [validB] at hv; omega
  have hf1 : 1 ≤ f ∧ f ≤ 65535 := by simp [validB, portB] at hv; omega
  have ht1 : 1 ≤ t ∧ t ≤ 65535 := by simp [validB, portB] at hv; omega
  have ha1 : 0 ≤ a ∧ a ≤ 4294967295 := by simpa [addrB] using ha
  have hb1 : 0 ≤ b ∧ b ≤ 4294967295 := by simpa [addrB] using hb
  have bl := be_length
  go_enter Try.func19, Try.ntmps19
  go_wp2_with (first | (go_at_call 14; refine (valid_any _ _ _ _ (by omega)).mono ?_; rintro e w1 ⟨rfl, hb1⟩; obtain ⟨c0, c1, c2, hB⟩ := next3 (w := w) (B := w.heap.size) (v0 := .int .i64 f) (v1 := .int .i64 t) (v2 := .string s) hb1 (by simp) (by simp) (by simp) ((Below.refl _ _).alloc (Nat.le_refl _) _); clear hb1) | (go_at_call 26; refine (addrValid_any _ _).mono ?_; rintro e w2 ⟨rfl, rfl⟩))
  refine (number_any _ _ _ (by simp) (by omega) (by simp; omega)).mono ?_
  rintro e w2 ⟨rfl, hb2⟩
  obtain ⟨c0, c1, c2, hB⟩ := next3 hb2 c0 c1 c2 hB
  clear hb2
  clear hv ha hb
  go_wp2_with fail
  refine (number_any _ _ _ (by simp) (by omega) (by simp; omega)).mono ?_
  rintro e w3 ⟨rfl, hb3⟩
  obtain ⟨c0, c1, c2, hB⟩ := next3 hb3 c0 c1 c2 hB
  clear hb3
  go_wp2_with fail
  refine (number_any _ _ _ (by simp) (by omega) (by simp; omega)).mono ?_
  rintro e w4 ⟨rfl, hb4⟩
  obtain ⟨c0, c1, c2, hB⟩ := next3 hb4 c0 c1 c2 hB
  clear hb4
  go_wp2_with fail
  go_region_held3 (fun w' => w'.cell? ⟨w.heap.size, 0, none⟩ = some (.int .i64 f) ∧ w'.cell? ⟨w.heap.size, 1, none⟩ = some (.int .i64 t) ∧ w'.cell? ⟨w.heap.size, 2, none⟩ = some (.string s) ∧ Below w.heap.size w w') (first | exact ⟨c0, c1, c2, hB.drew⟩ | (go_split_ands; exact ⟨by assumption, by assumption, by assumption, by assumption⟩) | (go_split_ands; exact next3 (by assumption) (by assumption) (by assumption) (by assumption) (by assumption))) (first | (go_at_call 27; refine (number_any _ _ _ (by simp) (by omega) (by simp; omega)).mono ?_; rintro e w5 ⟨rfl, hb5⟩))
  rename_i hH
  obtain ⟨c0, c1, c2, hB⟩ := hH
  clear hb5
  go_wp2_with fail
  go_region_held3 (fun w' => w'.cell? ⟨w.heap.size, 0, none⟩ = some (.int .i64 f) ∧ w'.cell? ⟨w.heap.size, 1, none⟩ = some (.int .i64 t) ∧ w'.cell? ⟨w.heap.size, 2, none⟩ = some (.string s) ∧ Below w.heap.size w w') (first | exact ⟨c0, c1, c2, hB.drew⟩ | (go_split_ands; exact ⟨by assumption, by assumption, by assumption, by assumption⟩) | (go_split_ands; exact next3 (by assumption) (by assumption) (by assumption) (by assumption) (by assumption)) | (go_split_ands; exact next3 ((Below.refl _ _).alloc (Nat.le_refl _) _) (by assumption) (by assumption) (by assumption) (by assumption)))
    (first | (go_at_call 27; refine (number_any _ _ _ (by simp) (by omega) (by simp)).mono ?_; rintro e w6 ⟨rfl, hb6⟩) | (go_at_call 28; refine (sum7' _ _ _ _ _ _ _ _ _ _ (World.alloc_heap_new _ _) (by simp [ByteArray.size_append, sz, bl]; omega)).mono ?_; rintro e w7 ⟨sm, rfl, hsm, hs0, hs1, hb7⟩))
  rename_i hH
  obtain ⟨c0, c1, c2, hB⟩ := hH
  clear hb7
  have hsz : ¬ 9223372036854775807 < 8 + s.size := by omega
  go_wp2_with fail
  go_region_held3 (fun w' => w'.cell? ⟨w.heap.size, 0, none⟩ = some (.int .i64 f) ∧ w'.cell? ⟨w.heap.size, 1, none⟩ = some (.int .i64 t) ∧ w'.cell? ⟨w.heap.size, 2, none⟩ = some (.string s) ∧ Below w.heap.size w w') (first | exact ⟨c0, c1, c2, hB.drew⟩ | (go_split_ands; exact ⟨by assumption, by assumption, by assumption, by assumption⟩) | (go_split_ands; exact next3 (by assumption) (by assumption) (by assumption) (by assumption) (by assumption)))
    (first | (go_at_call 27; refine (number_any _ _ _ (by simp) (by omega) (by simp; omega)).mono ?_; rintro e w8 ⟨rfl, hb8⟩))
  rename_i hH
  obtain ⟨c0, c1, c2, hB⟩ := hH
  clear hb8
  go_wp2_with fail
  go_ret
  refine ⟨?_, hB⟩
  have he : sm = sumOf a b f t s.data.toList := by
    rw [hsm.out]
    unfold sumOf cat7 pseudo head
    have e1 : (s.data.toList).length = s.size := rfl
    simp [e1]
  subst he
  have hq := enc_eq a b f t s.data.toList
  rw [← ba_self s] at hq
  exact ret_str hq

end Go.Proofs.Yteaihpiilimkcaa.Udp
