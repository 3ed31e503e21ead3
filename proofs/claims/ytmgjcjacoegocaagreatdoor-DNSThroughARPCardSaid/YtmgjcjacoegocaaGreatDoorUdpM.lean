/-
  UDP datagrams: encode, decode (several texts in one).
-/
import Derived.Test.YtmgjcjacoegocaaGreatDoorCheck
import Derived.Test.YtmgjcjacoegocaaGreatDoorShelf
import Derived.Deep.RegionHeld3
import Derived.Deep.RegionWith
import Derived.Deep.DeepMust
import Derived.Recover
import Derived.Defers
import Derived.Test.YtmgjcjacoegocaaGreatDoorPlain
namespace Go.Proofs.YtmgjcjacoegocaaGreatDoor.Udp
set_option maxRecDepth 100000
open Go.RowKit Go.Proofs.YtmgjcjacoegocaaGreatDoor.Wire

def portB (n : Int) : Bool := decide (1 ≤ n) && decide (n ≤ 65535)
def addrB (n : Int) : Bool := decide (0 ≤ n) && decide (n ≤ 4294967295)
def validB (f t : Int) (k : Nat) : Bool := portB f && portB t && decide (k ≤ 2000)

set_option maxHeartbeats 400000 in
theorem isPort_any (n : Int) (w : World) : Calls Tryz.prog 112 #[.int .i64 n] w fun e w' => e = .returned (.bool (portB n)) ∧ w = w' := by
  go_enter Tryz.func112, Tryz.ntmps112
  go_wp2
  all_goals
    go_ret
    exact ⟨ret_bool (by simp [portB]; try omega), rfl⟩

set_option maxHeartbeats 400000 in
theorem addrValid_any (n : Int) (w : World) : Calls Tryz.prog 86 #[.int .i64 n] w fun e w' => e = .returned (.bool (addrB n)) ∧ w = w' := by
  go_enter Tryz.func86, Tryz.ntmps86
  go_wp2
  all_goals
    go_ret
    exact ⟨ret_bool (by simp [addrB]; try omega), rfl⟩

set_option maxHeartbeats 400000 in
theorem valid_any (f t : Int) (s : ByteArray) (w : World) (hs : s.size ≤ 9223372036854775807) : Calls Tryz.prog 85 #[.agg #[.int .i64 f, .int .i64 t, .string s]] w fun e w' => e = .returned (.bool (validB f t s.size)) ∧ Below w.heap.size w w' := by
  cases h1 : portB f <;> cases h2 : portB t
  all_goals
    go_enter Tryz.func85, Tryz.ntmps85
    go_wp2_with (go_at_call 112; refine (isPort_any _ _).mono ?_; rintro e w' ⟨rfl, rfl⟩)
    go_ret
    exact ⟨ret_bool (by simp [validB, h1, h2]; try omega), (Below.refl _ _).alloc (Nat.le_refl _) _⟩

theorem number_any (n k : Int) (w : World) (hk : k = 1 ∨ k = 2 ∨ k = 4) (h0 : 0 ≤ n) (h1 : n < 256 ^ k.toNat) :
    Calls Tryz.prog 87 #[.int .i64 n, .int .i64 k] w fun e w' => e = .returned (.string ⟨(be k.toNat n).toArray⟩) ∧ Below w.heap.size w w' := by
  have hp : Calls Tryz.prog 73 #[.int .i64 n, .int .i64 k] w fun e w' => e = .returned (.tuple #[.string ⟨(be k.toNat n).toArray⟩, .int .i64 0]) ∧ Below w.heap.size w w' := by
    rcases hk with rfl | rfl | rfl
    · exact put1 n w h0 (by simpa using h1)
    · exact put2 n w h0 (by simpa using h1)
    · exact put4 n w h0 (by simpa using h1)
  have Hp := Lib.hid hp
  clear hp hk h0 h1
  generalize be k.toNat n = l at *
  go_enter Tryz.func87, Tryz.ntmps87
  go_wp2_with (go_at_call 73; refine (Hp.out).mono ?_; rintro e w' ⟨rfl, hb⟩)
  go_ret
  exact ⟨rfl, hb⟩

theorem join_nil (xs : List (List UInt8)) : Lib.join xs [] = xs.flatten := by
  cases xs with
  | nil => rfl
  | cons x r => rw [Lib.join_cons]; simp [Lib.joinTail]

theorem sum_any (bk c : Nat) (xs : List ByteArray) (w : World) (hcells : ∀ (j : Nat) x, xs[j]? = some x → w.cell? ⟨bk, 0 + j, none⟩ = some (.string x)) (hbk : bk < w.heap.size) (hN : xs.length ≤ 100) (hcap : xs.length ≤ c) (hlen : ((xs.map (·.data.toList)).flatten).length ≤ 1000000) :
    Calls Tryz.prog 88 #[.slice (some ⟨bk, 0, none⟩) xs.length c] w fun e w' => e = .returned (.int .i64 (csum ⟨((xs.map (·.data.toList)).flatten).toArray⟩)) ∧ Below w.heap.size w w' := by
  have hj := Tryz.strings_Join bk 0 c xs ⟨#[]⟩ w hcells hbk (by omega) hcap (by show (Lib.join _ []).length ≤ _; rw [join_nil]; omega)
  have e0 : (⟨#[]⟩ : ByteArray).data.toList = [] := rfl
  rw [e0, join_nil] at hj
  have Hj := Lib.hid hj
  clear hj hcells e0
  generalize hL : (xs.map (·.data.toList)).flatten = L at *
  have hc := Wire.checksum_any ⟨L.toArray⟩ (by simpa [ByteArray.size] using hlen)
  have Hc := Lib.hid hc
  clear hc hL
  go_enter Tryz.func88, Tryz.ntmps88
  go_wp2_with fail
  refine (Hj.out).mono ?_
  rintro e w1 ⟨rfl, hb1⟩
  go_wp2_with fail
  refine (Hc.out _).mono ?_
  rintro e w2 ⟨rfl, hb2⟩
  go_wp2_with fail
  go_ret
  exact ⟨rfl, hb1.trans (hb2.mono hb1.size)⟩

/-- the header without the checksum -/
def head (f t : Int) (n : Nat) : List UInt8 := be 2 f ++ be 2 t ++ be 2 (8 + n)
def pseudo (a b : Int) (n : Nat) : List UInt8 := be 4 a ++ be 4 b ++ be 1 0 ++ be 1 17 ++ be 2 (8 + n)
def sumOf (a b f t : Int) (l : List UInt8) : Int := csum ⟨(pseudo a b l.length ++ head f t l.length ++ be 2 0 ++ l).toArray⟩
def enc (a b f t : Int) (l : List UInt8) : List UInt8 := head f t l.length ++ be 2 (sumOf a b f t l) ++ l

def cat7 (x0 x1 x2 x3 x4 x5 x6 : ByteArray) : ByteArray := ⟨(x0.data.toList ++ x1.data.toList ++ x2.data.toList ++ x3.data.toList ++ x4.data.toList ++ x5.data.toList ++ x6.data.toList).toArray⟩
theorem sum7 (bk : Nat) (x0 x1 x2 x3 x4 x5 x6 : ByteArray) (t : TypeId) (w : World) (hc : w.heap[bk]? = some (.cells #[.string x0, .string x1, .string x2, .string x3, .string x4, .string x5, .string x6] t (0, 0))) (hl : x0.size + x1.size + x2.size + x3.size + x4.size + x5.size + x6.size ≤ 1000000) :
    Calls Tryz.prog 88 #[.slice (some ⟨bk, 0, none⟩) 7 7] w fun e w' => e = .returned (.int .i64 (csum (cat7 x0 x1 x2 x3 x4 x5 x6))) ∧ Below w.heap.size w w' := by
  have e : (([x0, x1, x2, x3, x4, x5, x6] : List ByteArray).map (·.data.toList)).flatten = x0.data.toList ++ x1.data.toList ++ x2.data.toList ++ x3.data.toList ++ x4.data.toList ++ x5.data.toList ++ x6.data.toList := by simp
  have h := sum_any bk 7 [x0, x1, x2, x3, x4, x5, x6] w ?_ (Array.getElem?_eq_some_iff.1 hc).1 (by simp) (by simp) (by
    rw [e]; simp only [List.length_append]
    have z : ∀ x : ByteArray, x.data.toList.length = x.size := fun _ => rfl
    simp only [z]; omega)
  · rw [e] at h; exact h
  · intro j x hj
    rw [Nat.zero_add]
    simp only [World.cell?, hc]
    match j, hj with
    | 0, hj => cases hj; rfl
    | 1, hj => cases hj; rfl
    | 2, hj => cases hj; rfl
    | 3, hj => cases hj; rfl
    | 4, hj => cases hj; rfl
    | 5, hj => cases hj; rfl
    | 6, hj => cases hj; rfl

/-- what a call of checksum leaves, its result a letter -/
def SumPost (x : ByteArray) (w : World) (e : Ending) (w' : World) : Prop := ∃ m : Int, e = .returned (.int .i64 m) ∧ Hid (m = csum x) ∧ 0 ≤ m ∧ m ≤ 65535 ∧ Below w.heap.size w w'
theorem csum_bd (s : ByteArray) : 0 ≤ csum s ∧ csum s ≤ 65535 := by
  have h := total_bd s ((s.size + 1) / 2)
  unfold csum wsum fold
  split <;> omega
theorem sum7' (bk : Nat) (x0 x1 x2 x3 x4 x5 x6 : ByteArray) (t : TypeId) (w : World) (hc : w.heap[bk]? = some (.cells #[.string x0, .string x1, .string x2, .string x3, .string x4, .string x5, .string x6] t (0, 0))) (hl : x0.size + x1.size + x2.size + x3.size + x4.size + x5.size + x6.size ≤ 1000000) :
    Calls Tryz.prog 88 #[.slice (some ⟨bk, 0, none⟩) 7 7] w (SumPost (cat7 x0 x1 x2 x3 x4 x5 x6) w) :=
  (sum7 bk x0 x1 x2 x3 x4 x5 x6 t w hc hl).mono fun _ _ ⟨he, hb⟩ => ⟨_, he, Lib.hid rfl, (csum_bd _).1, (csum_bd _).2, hb⟩

theorem enc_eq (a b f t : Int) (l : List UInt8) : (⟨(be 2 f).toArray⟩ ++ ⟨(be 2 t).toArray⟩ ++ ⟨(be 2 (8 + l.length)).toArray⟩ ++ ⟨(be 2 (sumOf a b f t l)).toArray⟩ ++ ⟨l.toArray⟩ : ByteArray) = ⟨(enc a b f t l).toArray⟩ := by
  simp only [ba_append, enc, head]

set_option maxRecDepth 100000 in
set_option maxHeartbeats 2000000 in
theorem encode_ok (a b f t : Int) (s : ByteArray) (w : World) (hv : validB f t s.size = true) (ha : addrB a = true) (hb : addrB b = true) (ha0 : (a == 0) = false) (hb0 : (b == 0) = false) :
    Calls Tryz.prog 43 #[.int .i64 a, .int .i64 b, .agg #[.int .i64 f, .int .i64 t, .string s]] w fun e w' => e = .returned (.string ⟨(enc a b f t s.data.toList).toArray⟩) ∧ Below w.heap.size w w' := by
  have hs : s.size ≤ 2000 := by simp [validB] at hv; omega
  have hf1 : 1 ≤ f ∧ f ≤ 65535 := by simp [validB, portB] at hv; omega
  have ht1 : 1 ≤ t ∧ t ≤ 65535 := by simp [validB, portB] at hv; omega
  have ha1 : 0 ≤ a ∧ a ≤ 4294967295 := by simpa [addrB] using ha
  have hb1 : 0 ≤ b ∧ b ≤ 4294967295 := by simpa [addrB] using hb
  have bl := be_length
  go_enter Tryz.func43, Tryz.ntmps43
  go_wp2_with (first | (go_at_call 85; refine (valid_any _ _ _ _ (by omega)).mono ?_; rintro e w1 ⟨rfl, hb1⟩; obtain ⟨c0, c1, c2, hB⟩ := next3 (w := w) (B := w.heap.size) (v0 := .int .i64 f) (v1 := .int .i64 t) (v2 := .string s) hb1 (by simp) (by simp) (by simp) ((Below.refl _ _).alloc (Nat.le_refl _) _); clear hb1) | (go_at_call 86; refine (addrValid_any _ _).mono ?_; rintro e w2 ⟨rfl, rfl⟩))
  refine (number_any _ _ _ (by simp) (by omega) (by simp; omega)).mono ?_
  rintro e w2 ⟨rfl, hb2⟩
  obtain ⟨c0, c1, c2, hB⟩ := next3 hb2 c0 c1 c2 hB
  clear hb2
  clear hv ha hb
  go_wp2_with fail
  refine (number_any _ _ _ (by simp) (by omega) (by simp; omega)).mono ?_
  rintro e w3 ⟨rfl, hb3⟩
  obtain ⟨c0, c1, c2, hB⟩ := next3 hb3 c0 c1 c2 hB
  clear hb3
  go_wp2_with fail
  refine (number_any _ _ _ (by simp) (by omega) (by simp; omega)).mono ?_
  rintro e w4 ⟨rfl, hb4⟩
  obtain ⟨c0, c1, c2, hB⟩ := next3 hb4 c0 c1 c2 hB
  clear hb4
  go_wp2_with fail
  go_region_held3 (fun w' => w'.cell? ⟨w.heap.size, 0, none⟩ = some (.int .i64 f) ∧ w'.cell? ⟨w.heap.size, 1, none⟩ = some (.int .i64 t) ∧ w'.cell? ⟨w.heap.size, 2, none⟩ = some (.string s) ∧ Below w.heap.size w w') (first | exact ⟨c0, c1, c2, hB.drew⟩ | (go_split_ands; exact ⟨by assumption, by assumption, by assumption, by assumption⟩) | (go_split_ands; exact next3 (by assumption) (by assumption) (by assumption) (by assumption) (by assumption))) (first | (go_at_call 87; refine (number_any _ _ _ (by simp) (by omega) (by simp; omega)).mono ?_; rintro e w5 ⟨rfl, hb5⟩))
  rename_i hH
  obtain ⟨c0, c1, c2, hB⟩ := hH
  clear hb5
  go_wp2_with fail
  go_region_held3 (fun w' => w'.cell? ⟨w.heap.size, 0, none⟩ = some (.int .i64 f) ∧ w'.cell? ⟨w.heap.size, 1, none⟩ = some (.int .i64 t) ∧ w'.cell? ⟨w.heap.size, 2, none⟩ = some (.string s) ∧ Below w.heap.size w w') (first | exact ⟨c0, c1, c2, hB.drew⟩ | (go_split_ands; exact ⟨by assumption, by assumption, by assumption, by assumption⟩) | (go_split_ands; exact next3 (by assumption) (by assumption) (by assumption) (by assumption) (by assumption)) | (go_split_ands; exact next3 ((Below.refl _ _).alloc (Nat.le_refl _) _) (by assumption) (by assumption) (by assumption) (by assumption)))
    (first | (go_at_call 87; refine (number_any _ _ _ (by simp) (by omega) (by simp)).mono ?_; rintro e w6 ⟨rfl, hb6⟩) | (go_at_call 88; refine (sum7' _ _ _ _ _ _ _ _ _ _ (World.alloc_heap_new _ _) (by simp [ByteArray.size_append, sz, bl]; omega)).mono ?_; rintro e w7 ⟨sm, rfl, hsm, hs0, hs1, hb7⟩))
  rename_i hH
  obtain ⟨c0, c1, c2, hB⟩ := hH
  clear hb7
  have hsz : ¬ 9223372036854775807 < 8 + s.size := by omega
  go_wp2_with fail
  go_region_held3 (fun w' => w'.cell? ⟨w.heap.size, 0, none⟩ = some (.int .i64 f) ∧ w'.cell? ⟨w.heap.size, 1, none⟩ = some (.int .i64 t) ∧ w'.cell? ⟨w.heap.size, 2, none⟩ = some (.string s) ∧ Below w.heap.size w w') (first | exact ⟨c0, c1, c2, hB.drew⟩ | (go_split_ands; exact ⟨by assumption, by assumption, by assumption, by assumption⟩) | (go_split_ands; exact next3 (by assumption) (by assumption) (by assumption) (by assumption) (by assumption)))
    (first | (go_at_call 87; refine (number_any _ _ _ (by simp) (by omega) (by simp; omega)).mono ?_; rintro e w8 ⟨rfl, hb8⟩))
  rename_i hH
  obtain ⟨c0, c1, c2, hB⟩ := hH
  clear hb8
  go_wp2_with fail
  go_ret
  refine ⟨?_, hB⟩
  have he : sm = sumOf a b f t s.data.toList := by
    rw [hsm.out]
    unfold sumOf cat7 pseudo head
    have e1 : (s.data.toList).length = s.size := rfl
    simp [e1]
  subst he
  have hq := enc_eq a b f t s.data.toList
  rw [← ba_self s] at hq
  exact ret_str hq

end Go.Proofs.YtmgjcjacoegocaaGreatDoor.Udp

namespace Go.Proofs.YtmgjcjacoegocaaGreatDoor.Udp
set_option maxRecDepth 100000
open Go.RowKit Go.Proofs.YtmgjcjacoegocaaGreatDoor.Wire

def encOk (a b f t : Int) (k : Nat) : Bool := validB f t k && !(a == 0) && !(b == 0) && addrB a && addrB b

set_option maxRecDepth 100000 in
set_option maxHeartbeats 1000000 in
theorem encode_no (a b f t : Int) (s : ByteArray) (w : World) (hs : s.size ≤ 9223372036854775807) (h : encOk a b f t s.size = false) :
    Calls Tryz.prog 43 #[.int .i64 a, .int .i64 b, .agg #[.int .i64 f, .int .i64 t, .string s]] w fun e w' => e = .panicked [{ v := .iface 31 (.int .i64 100), recovered := false }] ∧ Below w.heap.size w w' := by
  have hmi : ∀ w, (Instr.makeInterface 31 (.int .i64 100)).run Tryz.prog w = .ok (.iface 31 (.int .i64 100)) w := fun _ => by kernel_rfl
  cases h1 : validB f t s.size
  · clear h
    go_enter Tryz.func43, Tryz.ntmps43
    go_wp2_with (first | (go_at_call 85; refine (valid_any _ _ _ _ (by omega)).mono ?_; rintro e w1 ⟨rfl, hb1⟩) | (go_at_call 86; refine (addrValid_any _ _).mono ?_; rintro e w2 ⟨rfl, rfl⟩))
    refine bodyPost_pan rfl ?_
    exact ⟨rfl, ((Below.refl _ _).alloc (Nat.le_refl _) _).trans (hb1.mono (by simp))⟩
  cases h2 : (a == 0)
  rotate_left
  · clear h
    go_enter Tryz.func43, Tryz.ntmps43
    go_wp2_with (first | (go_at_call 85; refine (valid_any _ _ _ _ (by omega)).mono ?_; rintro e w1 ⟨rfl, hb1⟩) | (go_at_call 86; refine (addrValid_any _ _).mono ?_; rintro e w2 ⟨rfl, rfl⟩))
    refine bodyPost_pan rfl ?_
    exact ⟨rfl, ((Below.refl _ _).alloc (Nat.le_refl _) _).trans (hb1.mono (by simp))⟩
  cases h3 : (b == 0)
  rotate_left
  · clear h
    go_enter Tryz.func43, Tryz.ntmps43
    go_wp2_with (first | (go_at_call 85; refine (valid_any _ _ _ _ (by omega)).mono ?_; rintro e w1 ⟨rfl, hb1⟩) | (go_at_call 86; refine (addrValid_any _ _).mono ?_; rintro e w2 ⟨rfl, rfl⟩))
    refine bodyPost_pan rfl ?_
    exact ⟨rfl, ((Below.refl _ _).alloc (Nat.le_refl _) _).trans (hb1.mono (by simp))⟩
  cases h4 : addrB a
  · clear h
    go_enter Tryz.func43, Tryz.ntmps43
    go_wp2_with (first | (go_at_call 85; refine (valid_any _ _ _ _ (by omega)).mono ?_; rintro e w1 ⟨rfl, hb1⟩) | (go_at_call 86; refine (addrValid_any _ _).mono ?_; rintro e w2 ⟨rfl, rfl⟩))
    refine bodyPost_pan rfl ?_
    exact ⟨rfl, ((Below.refl _ _).alloc (Nat.le_refl _) _).trans (hb1.mono (by simp))⟩
  cases h5 : addrB b
  · clear h
    go_enter Tryz.func43, Tryz.ntmps43
    go_wp2_with (first | (go_at_call 85; refine (valid_any _ _ _ _ (by omega)).mono ?_; rintro e w1 ⟨rfl, hb1⟩) | (go_at_call 86; refine (addrValid_any _ _).mono ?_; rintro e w2 ⟨rfl, rfl⟩))
    refine bodyPost_pan rfl ?_
    exact ⟨rfl, ((Below.refl _ _).alloc (Nat.le_refl _) _).trans (hb1.mono (by simp))⟩
  simp [encOk, h1, h2, h3, h4, h5] at h

theorem encode_okB (a b f t : Int) (s : ByteArray) (w : World) (h : encOk a b f t s.size = true) :
    Calls Tryz.prog 43 #[.int .i64 a, .int .i64 b, .agg #[.int .i64 f, .int .i64 t, .string s]] w fun e w' => e = .returned (.string ⟨(enc a b f t s.data.toList).toArray⟩) ∧ Below w.heap.size w w' := by
  simp only [encOk, Bool.and_eq_true, Bool.not_eq_true'] at h
  obtain ⟨⟨⟨⟨h1, h2⟩, h3⟩, h4⟩, h5⟩ := h
  exact encode_ok a b f t s w h1 h4 h5 h2 h3

theorem catchE_panicking (b : Nat) (x : ByteArray) (y : Int) (u : TypeId) (pv : Value) (w : World) (hc : w.cell? ⟨b, 0, none⟩ = some (.string x)) (hz : w.frozen? ⟨b, 0, none⟩ = false) (hc2 : w.cell? ⟨b + 1, 0, none⟩ = some (.int .i64 y)) (hz2 : w.frozen? ⟨b + 1, 0, none⟩ = false) :
    CallsD Tryz.prog 42 #[.pointer (some ⟨b, 0, none⟩), .pointer (some ⟨b + 1, 0, none⟩)] (.panicking [{ v := .iface u pv, recovered := false }]) w fun e u' w' =>
      e = .returned (.tuple #[]) ∧ u' = .panicking [{ v := .iface u pv, recovered := true }] ∧ w' = (w.setCell ⟨b, 0, none⟩ (.string ⟨#[]⟩)).setCell ⟨b + 1, 0, none⟩ (.int .i64 100) := by
  have hc3 : (w.setCell ⟨b, 0, none⟩ (.string ⟨#[]⟩)).cell? ⟨b + 1, 0, none⟩ = some (.int .i64 y) := (World.cell?_setCell_other _ _ _ _ (by simp)).trans hc2
  refine callsD_of_wpS Tryz.func42 rfl fun c₀ cs hu => ?_
  apply wpS_seq
  apply wpS_region
  simp [wpOpsS, go_sem, recoverD, hu, Tryz.ntmps42, Exit.thenS]
  refine wpS_of_wp ?_
  simp only [Array.replicate, List.replicate_succ, List.replicate_zero, List.setIfInBounds_toArray, List.set_cons_zero, List.set_cons_succ, List.append_toArray, List.cons_append, List.nil_append]
  go_wp2
  exact ⟨rfl, _, rfl, _, results_none rfl _ _ _, rfl, rfl, rfl⟩

theorem catchE_idle (p q : Addr) (w : World) :
    CallsD Tryz.prog 42 #[.pointer (some p), .pointer (some q)] .returning w fun e u' w' => e = .returned (.tuple #[]) ∧ u' = .returning ∧ w' = w := by
  refine callsD_of_wpS Tryz.func42 rfl fun c₀ cs hu => ?_
  apply wpS_seq
  apply wpS_region
  simp [wpOpsS, go_sem, recoverD, hu, Tryz.ntmps42, Exit.thenS]
  refine wpS_of_wp ?_
  simp only [Array.replicate, List.replicate_succ, List.replicate_zero, List.setIfInBounds_toArray, List.set_cons_zero, List.set_cons_succ, List.append_toArray, List.cons_append, List.nil_append]
  go_wp2
  refine ⟨rfl, .returning, ?_, _, results_none rfl _ _ _, rfl, rfl, rfl⟩
  cases c₀; simp_all

set_option maxRecDepth 100000 in
set_option maxHeartbeats 1000000 in
theorem Encode_ok (a b f t : Int) (s : ByteArray) (w : World) (h : encOk a b f t s.size = true) :
    Calls Tryz.prog 9 #[.int .i64 a, .int .i64 b, .agg #[.int .i64 f, .int .i64 t, .string s]] w fun e w' => e = .returned (.tuple #[.string ⟨(enc a b f t s.data.toList).toArray⟩, .int .i64 0]) ∧ Below w.heap.size w w' := by
  have hmf : ∀ (fn : Fn) (first cap : Array Value) (w : World), (Instr.makeFunc fn first cap).run Tryz.prog w = .ok (.func fn first cap) w := fun _ _ _ _ => rfl
  simp only [encOk, Bool.and_eq_true, Bool.not_eq_true'] at h
  obtain ⟨⟨⟨⟨h1, h2⟩, h3⟩, h4⟩, h5⟩ := h
  have Hc := Lib.hid (encode_ok a b f t s)
  generalize enc a b f t s.data.toList = R at *
  go_enter_defers Tryz.func9, Tryz.ntmps9
  go_wp2_with (go_at_call 43; refine (Hc.out _ h1 h4 h5 h2 h3).mono ?_; rintro e w1 ⟨rfl, hb1⟩; obtain ⟨p1, p2⟩ := bbox hb1 (b := w.heap.size + 1) (v := .string ⟨#[]⟩) (t := 9) (heap3_1 _ _ _ _); obtain ⟨q1, q2⟩ := bbox hb1 (b := w.heap.size + 1 + 1) (v := .int .i64 0) (t := 31) (heap3_2 _ _ _ _))
  refine leaves_cons (f := 42) (args := #[.pointer (some ⟨w.heap.size + 1, 0, none⟩), .pointer (some ⟨w.heap.size + 1 + 1, 0, none⟩)]) (by simp) (by simp [go_sem]) ?_
  refine (catchE_idle _ _ _).mono ?_
  rintro e u' w'' ⟨rfl, rfl, rfl⟩
  have hBel : Below w.heap.size w w1 := ((((Below.refl _ _).alloc (Nat.le_refl _) _).alloc (by simp) _).alloc (by simp; omega) _).trans (hb1.mono (by simp; omega))
  have e1 : ((w1.setCell ⟨w.heap.size + 1, 0, none⟩ (.string ⟨R.toArray⟩)).setCell ⟨w.heap.size + 1 + 1, 0, none⟩ (.int .i64 0)).cell? ⟨w.heap.size + 1, 0, none⟩ = some (.string ⟨R.toArray⟩) :=
    (World.cell?_setCell_other _ _ _ _ (by simp)).trans (World.cell?_setCell_same' _ _ _ (by rw [p1]; rfl))
  have e2 : ((w1.setCell ⟨w.heap.size + 1, 0, none⟩ (.string ⟨R.toArray⟩)).setCell ⟨w.heap.size + 1 + 1, 0, none⟩ (.int .i64 0)).cell? ⟨w.heap.size + 1 + 1, 0, none⟩ = some (.int .i64 0) :=
    World.cell?_setCell_same' _ _ _ (by rw [World.cell?_setCell_other _ _ _ _ (by simp), q1]; rfl)
  simp [Leaves, settle, results, Tryz.results9, go_sem, e1, e2]
  exact (hBel.setCell (p := ⟨w.heap.size + 1, 0, none⟩) (by simp) _).setCell (p := ⟨w.heap.size + 1 + 1, 0, none⟩) (by simp; omega) _

set_option maxRecDepth 100000 in
set_option maxHeartbeats 1000000 in
theorem Encode_no (a b f t : Int) (s : ByteArray) (w : World) (hs : s.size ≤ 9223372036854775807) (h : encOk a b f t s.size = false) :
    Calls Tryz.prog 9 #[.int .i64 a, .int .i64 b, .agg #[.int .i64 f, .int .i64 t, .string s]] w fun e w' => e = .returned (.tuple #[.string ⟨#[]⟩, .int .i64 100]) ∧ Below w.heap.size w w' := by
  have hmf : ∀ (fn : Fn) (first cap : Array Value) (w : World), (Instr.makeFunc fn first cap).run Tryz.prog w = .ok (.func fn first cap) w := fun _ _ _ _ => rfl
  have Hc := Lib.hid fun w => encode_no a b f t s w hs h
  go_enter_defers Tryz.func9, Tryz.ntmps9
  go_wp2_with (go_at_call 43; refine (Hc.out _).mono ?_; rintro e w1 ⟨rfl, hb1⟩)
  obtain ⟨p1, p2⟩ := bbox hb1 (b := w.heap.size + 1) (v := .string ⟨#[]⟩) (t := 9) (heap3_1 _ _ _ _)
  obtain ⟨q1, q2⟩ := bbox hb1 (b := w.heap.size + 1 + 1) (v := .int .i64 0) (t := 31) (heap3_2 _ _ _ _)
  refine leaves_cons (f := 42) (args := #[.pointer (some ⟨w.heap.size + 1, 0, none⟩), .pointer (some ⟨w.heap.size + 1 + 1, 0, none⟩)]) (by simp) (by simp [go_sem]) ?_
  refine (catchE_panicking _ _ _ _ _ _ p1 p2 q1 q2).mono ?_
  rintro e u' w'' ⟨rfl, rfl, rfl⟩
  have hBel : Below w.heap.size w w1 := ((((Below.refl _ _).alloc (Nat.le_refl _) _).alloc (by simp) _).alloc (by simp; omega) _).trans (hb1.mono (by simp; omega))
  have e1 : ((w1.setCell ⟨w.heap.size + 1, 0, none⟩ (.string ⟨#[]⟩)).setCell ⟨w.heap.size + 1 + 1, 0, none⟩ (.int .i64 100)).cell? ⟨w.heap.size + 1, 0, none⟩ = some (.string ⟨#[]⟩) :=
    (World.cell?_setCell_other _ _ _ _ (by simp)).trans (World.cell?_setCell_same' _ _ _ (by rw [p1]; rfl))
  have e2 : ((w1.setCell ⟨w.heap.size + 1, 0, none⟩ (.string ⟨#[]⟩)).setCell ⟨w.heap.size + 1 + 1, 0, none⟩ (.int .i64 100)).cell? ⟨w.heap.size + 1 + 1, 0, none⟩ = some (.int .i64 100) :=
    World.cell?_setCell_same' _ _ _ (by rw [World.cell?_setCell_other _ _ _ _ (by simp), q1]; rfl)
  simp [Leaves, settle, results, Tryz.results9, go_sem, e1, e2]
  exact (hBel.setCell (p := ⟨w.heap.size + 1, 0, none⟩) (by simp) _).setCell (p := ⟨w.heap.size + 1 + 1, 0, none⟩) (by simp; omega) _

end Go.Proofs.YtmgjcjacoegocaaGreatDoor.Udp

namespace Go.Proofs.YtmgjcjacoegocaaGreatDoor.Udp
set_option maxRecDepth 100000
open Go.RowKit Go.Proofs.YtmgjcjacoegocaaGreatDoor.Wire

theorem get_any (s : ByteArray) (a : Int) (w : World) (h0 : 0 ≤ a) (h1 : a + 2 ≤ s.size) (hm : s.size ≤ 9223372036854775807) :
    Calls Tryz.prog 101 #[.string s, .int .i64 a] w fun e w' => e = .returned (.int .i64 (num (bytesAt s a.toNat 2))) ∧ ∃ cs, w' = (w.alloc (.cells cs 187)).drew := by
  have Hp := Lib.hid (getx2 s a w h0 h1 hm)
  generalize num (bytesAt s a.toNat 2) = R at *
  go_enter Tryz.func101, Tryz.ntmps101
  go_wp2_with (go_at_call 26; refine (Hp.out).mono ?_; rintro e w' ⟨rfl, cs, rfl⟩)
  go_ret
  exact ⟨rfl, _, rfl⟩

/-- the parts that decode reads -/
def dFrom (s : ByteArray) : Int := num (bytesAt s 0 2)
def dTo (s : ByteArray) : Int := num (bytesAt s 2 2)
def dEnc (a b : Int) (s : ByteArray) : List UInt8 := enc a b (num (bytesAt s 0 2)) (num (bytesAt s 2 2)) (s.extract 8 s.size).data.toList
abbrev panicE : Ending := .panicked [{ v := .iface 31 (.int .i64 100), recovered := false }]

set_option maxRecDepth 100000 in
set_option maxHeartbeats 2000000 in
theorem decode_short (a b : Int) (s : ByteArray) (w : World) (hs : s.size < 8) :
    Calls Tryz.prog 64 #[.int .i64 a, .int .i64 b, .string s] w fun e w' => e = .panicked [{ v := .iface 31 (.int .i64 100), recovered := false }] ∧ Below w.heap.size w w' := by
  have hmi : ∀ w, (Instr.makeInterface 31 (.int .i64 100)).run Tryz.prog w = .ok (.iface 31 (.int .i64 100)) w := fun _ => by kernel_rfl
  go_enter Tryz.func64, Tryz.ntmps64
  go_wp2_with fail
  refine bodyPost_pan rfl ?_
  exact ⟨rfl, ((Below.refl _ _).alloc (Nat.le_refl _) _)⟩

set_option maxRecDepth 100000 in
set_option maxHeartbeats 2000000 in
theorem decode_bad (a b : Int) (s : ByteArray) (w : World) (hs : s.size ≤ 9223372036854775807) (h8 : 8 ≤ s.size) (hk : encOk a b (num (bytesAt s 0 2)) (num (bytesAt s 2 2)) (s.extract 8 s.size).size = false) :
    Calls Tryz.prog 64 #[.int .i64 a, .int .i64 b, .string s] w fun e w' => e = .panicked [{ v := .iface 31 (.int .i64 100), recovered := false }] ∧ Below w.heap.size w w' := by
  have hmi : ∀ w, (Instr.makeInterface 31 (.int .i64 100)).run Tryz.prog w = .ok (.iface 31 (.int .i64 100)) w := fun _ => by kernel_rfl
  have hx : (s.extract 8 s.size).size ≤ 9223372036854775807 := by simp; omega
  have Hc := Lib.hid fun w => encode_no a b _ _ _ w hx hk
  clear hk hx
  go_enter Tryz.func64, Tryz.ntmps64
  go_wp2_with fail
  go_region_with (go_at_call 101; refine (get_any _ _ _ (by omega) (by omega) hs).mono ?_; rintro e w5 ⟨rfl, cs, rfl⟩)
  all_goals
    go_wp2_with (go_at_call 43; refine (Hc.out _).mono ?_; rintro e w6 ⟨rfl, hb6⟩)
    refine bodyPost_pan rfl ?_
    exact ⟨rfl, Below.trans (by repeat (first | exact Below.refl _ _ | apply Below.drew | apply below_alloc)) (hb6.mono (by simp; omega))⟩

set_option maxRecDepth 100000 in
set_option maxHeartbeats 2000000 in
theorem decode_other (a b : Int) (s : ByteArray) (w : World) (hs : s.size ≤ 9223372036854775807) (h8 : 8 ≤ s.size) (hk : encOk a b (num (bytesAt s 0 2)) (num (bytesAt s 2 2)) (s.extract 8 s.size).size = true) (hne : dEnc a b s ≠ s.data.toList) :
    Calls Tryz.prog 64 #[.int .i64 a, .int .i64 b, .string s] w fun e w' => e = .panicked [{ v := .iface 31 (.int .i64 100), recovered := false }] ∧ Below w.heap.size w w' := by
  have hmi : ∀ w, (Instr.makeInterface 31 (.int .i64 100)).run Tryz.prog w = .ok (.iface 31 (.int .i64 100)) w := fun _ => by kernel_rfl
  have Hc := Lib.hid fun w => encode_okB a b _ _ (s.extract 8 s.size) w hk
  have hcmp : (enc a b (num (bytesAt s 0 2)) (num (bytesAt s 2 2)) (s.extract 8 s.size).data.toList == s.toList) = false := by
    rw [ByteArray.toList_eq]; simpa [dEnc] using hne
  clear hk hne
  generalize enc a b (num (bytesAt s 0 2)) (num (bytesAt s 2 2)) (s.extract 8 s.size).data.toList = R at *
  go_enter Tryz.func64, Tryz.ntmps64
  go_wp2_with fail
  go_region_with (go_at_call 101; refine (get_any _ _ _ (by omega) (by omega) hs).mono ?_; rintro e w5 ⟨rfl, cs, rfl⟩)
  all_goals
    go_wp2_with (go_at_call 43; refine (Hc.out _).mono ?_; rintro e w6 ⟨rfl, hb6⟩; obtain ⟨hc6, hf6⟩ := bcells hb6)
    refine bodyPost_pan rfl ?_
    exact ⟨rfl, Below.trans (by repeat (first | exact Below.refl _ _ | apply Below.drew | apply below_alloc)) (hb6.mono (by simp; omega))⟩

set_option maxRecDepth 100000 in
set_option maxHeartbeats 2000000 in
theorem decode_ok (a b : Int) (s : ByteArray) (w : World) (hs : s.size ≤ 9223372036854775807) (h8 : 8 ≤ s.size) (hk : encOk a b (num (bytesAt s 0 2)) (num (bytesAt s 2 2)) (s.extract 8 s.size).size = true) (hne : dEnc a b s = s.data.toList) :
    Calls Tryz.prog 64 #[.int .i64 a, .int .i64 b, .string s] w fun e w' => e = .returned (.agg #[.int .i64 (num (bytesAt s 0 2)), .int .i64 (num (bytesAt s 2 2)), .string (s.extract 8 s.size)]) ∧ Below w.heap.size w w' := by
  have Hc := Lib.hid fun w => encode_okB a b _ _ (s.extract 8 s.size) w hk
  have hcmp : (enc a b (num (bytesAt s 0 2)) (num (bytesAt s 2 2)) (s.extract 8 s.size).data.toList == s.toList) = true := by
    rw [ByteArray.toList_eq]; simpa [dEnc] using hne
  clear hk hne
  generalize enc a b (num (bytesAt s 0 2)) (num (bytesAt s 2 2)) (s.extract 8 s.size).data.toList = R at *
  go_enter Tryz.func64, Tryz.ntmps64
  go_wp2_with fail
  go_region_with (go_at_call 101; refine (get_any _ _ _ (by omega) (by omega) hs).mono ?_; rintro e w5 ⟨rfl, cs, rfl⟩)
  all_goals
    go_wp2_with (go_at_call 43; refine (Hc.out _).mono ?_; rintro e w6 ⟨rfl, hb6⟩; obtain ⟨hc6, hf6⟩ := bcells hb6)
    obtain ⟨e0, e1, e2⟩ := set3 (W := w6) (B := w.heap.size) (x0 := .int .i64 0) (x1 := .int .i64 0) (x2 := .string ⟨#[]⟩) (v0 := .int .i64 (num (bytesAt s 0 2))) (v1 := .int .i64 (num (bytesAt s 2 2))) (v2 := .string (s.extract 8 s.size)) ((hc6 w.heap.size 0 (by simp; omega)).trans (by simp [go_sem])) ((hc6 w.heap.size 1 (by simp; omega)).trans (by simp [go_sem])) ((hc6 w.heap.size 2 (by simp; omega)).trans (by simp [go_sem]))
    have hB : Below w.heap.size w w6 := Below.trans (by repeat (first | exact Below.refl _ _ | apply Below.drew | apply below_alloc)) (hb6.mono (by simp; omega))
    refine bodyPost_ret (v := .agg #[.int .i64 (num (bytesAt s 0 2)), .int .i64 (num (bytesAt s 2 2)), .string (s.extract 8 s.size)]) ?_ rfl ⟨rfl, ?_⟩
    · simp [results, Tryz.results64, go_sem, e0, e1, e2]
    · exact ((hB.setCell (p := ⟨w.heap.size, 0, none⟩) (Nat.le_refl _) _).setCell (p := ⟨w.heap.size, 1, none⟩) (Nat.le_refl _) _).setCell (p := ⟨w.heap.size, 2, none⟩) (Nat.le_refl _) _

end Go.Proofs.YtmgjcjacoegocaaGreatDoor.Udp

namespace Go.Proofs.YtmgjcjacoegocaaGreatDoor.Udp
set_option maxRecDepth 100000
open Go.RowKit Go.Proofs.YtmgjcjacoegocaaGreatDoor.Wire

theorem catchD_panicking (b : Nat) (x : ByteArray) (n0 n1 y : Int) (u : TypeId) (pv : Value) (w : World) (hc0 : w.cell? ⟨b, 0, none⟩ = some (.int .i64 n0)) (hz0 : w.frozen? ⟨b, 0, none⟩ = false) (hc1 : w.cell? ⟨b, 1, none⟩ = some (.int .i64 n1)) (hz1 : w.frozen? ⟨b, 1, none⟩ = false)
    (hc2 : w.cell? ⟨b, 2, none⟩ = some (.string x)) (hz2 : w.frozen? ⟨b, 2, none⟩ = false) (hc3 : w.cell? ⟨b + 1, 0, none⟩ = some (.int .i64 y)) (hz3 : w.frozen? ⟨b + 1, 0, none⟩ = false) :
    CallsD Tryz.prog 63 #[.pointer (some ⟨b, 0, none⟩), .pointer (some ⟨b + 1, 0, none⟩)] (.panicking [{ v := .iface u pv, recovered := false }]) w fun e u' w' =>
      e = .returned (.tuple #[]) ∧ u' = .panicking [{ v := .iface u pv, recovered := true }] ∧ w' = (((w.setCell ⟨b, 0, none⟩ (.int .i64 0)).setCell ⟨b, 1, none⟩ (.int .i64 0)).setCell ⟨b, 2, none⟩ (.string ⟨#[]⟩)).setCell ⟨b + 1, 0, none⟩ (.int .i64 100) := by
  have hc4 : (((w.setCell ⟨b, 0, none⟩ (.int .i64 0)).setCell ⟨b, 1, none⟩ (.int .i64 0)).setCell ⟨b, 2, none⟩ (.string ⟨#[]⟩)).cell? ⟨b + 1, 0, none⟩ = some (.int .i64 y) := by
    rw [World.cell?_setCell_other _ _ _ _ (by simp), World.cell?_setCell_other _ _ _ _ (by simp), World.cell?_setCell_other _ _ _ _ (by simp)]; exact hc3
  refine callsD_of_wpS Tryz.func63 rfl fun c₀ cs hu => ?_
  apply wpS_seq
  apply wpS_region
  simp [wpOpsS, go_sem, recoverD, hu, Tryz.ntmps63, Exit.thenS]
  refine wpS_of_wp ?_
  simp only [Array.replicate, List.replicate_succ, List.replicate_zero, List.setIfInBounds_toArray, List.set_cons_zero, List.set_cons_succ, List.append_toArray, List.cons_append, List.nil_append]
  go_wp2
  exact ⟨rfl, _, rfl, _, results_none rfl _ _ _, rfl, rfl, rfl⟩

theorem catchD_idle (p q : Addr) (w : World) :
    CallsD Tryz.prog 63 #[.pointer (some p), .pointer (some q)] .returning w fun e u' w' => e = .returned (.tuple #[]) ∧ u' = .returning ∧ w' = w := by
  refine callsD_of_wpS Tryz.func63 rfl fun c₀ cs hu => ?_
  apply wpS_seq
  apply wpS_region
  simp [wpOpsS, go_sem, recoverD, hu, Tryz.ntmps63, Exit.thenS]
  refine wpS_of_wp ?_
  simp only [Array.replicate, List.replicate_succ, List.replicate_zero, List.setIfInBounds_toArray, List.set_cons_zero, List.set_cons_succ, List.append_toArray, List.cons_append, List.nil_append]
  go_wp2
  refine ⟨rfl, .returning, ?_, _, results_none rfl _ _ _, rfl, rfl, rfl⟩
  cases c₀; simp_all

set_option maxRecDepth 100000 in
set_option maxHeartbeats 1000000 in
theorem Decode_no (a b : Int) (s : ByteArray) (w : World) (hd : ∀ w, Calls Tryz.prog 64 #[.int .i64 a, .int .i64 b, .string s] w fun e w' => e = .panicked [{ v := .iface 31 (.int .i64 100), recovered := false }] ∧ Below w.heap.size w w') :
    Calls Tryz.prog 17 #[.int .i64 a, .int .i64 b, .string s] w fun e w' => e = .returned (.tuple #[.agg #[.int .i64 0, .int .i64 0, .string ⟨#[]⟩], .int .i64 100]) ∧ Below w.heap.size w w' := by
  have hmf : ∀ (fn : Fn) (first cap : Array Value) (w : World), (Instr.makeFunc fn first cap).run Tryz.prog w = .ok (.func fn first cap) w := fun _ _ _ _ => rfl
  have Hc := Lib.hid hd
  clear hd
  go_enter_defers Tryz.func17, Tryz.ntmps17
  go_wp2_with (go_at_call 64; refine (Hc.out _).mono ?_; rintro e w1 ⟨rfl, hb1⟩)
  obtain ⟨⟨p0, p1, p2⟩, f0, f1, f2⟩ := cells3 (bblock hb1 (heap2_0 _ _ _))
  obtain ⟨q1, q2⟩ := cell_of_box (bblock hb1 (heap2_1 _ _ _))
  refine leaves_cons (f := 63) (args := #[.pointer (some ⟨w.heap.size, 0, none⟩), .pointer (some ⟨w.heap.size + 1, 0, none⟩)]) (by simp) (by simp [go_sem]) ?_
  refine (catchD_panicking _ _ _ _ _ _ _ _ p0 f0 p1 f1 p2 f2 q1 q2).mono ?_
  rintro e u' w'' ⟨rfl, rfl, rfl⟩
  have hBel : Below w.heap.size w w1 := Below.trans (below_alloc (below_alloc (Below.refl _ _))) (hb1.mono (by simp; omega))
  obtain ⟨e0, e1, e2⟩ := set3 (W := w1) (B := w.heap.size) (v0 := .int .i64 0) (v1 := .int .i64 0) (v2 := .string ⟨#[]⟩) p0 p1 p2
  have g3 : (((w1.setCell ⟨w.heap.size, 0, none⟩ (.int .i64 0)).setCell ⟨w.heap.size, 1, none⟩ (.int .i64 0)).setCell ⟨w.heap.size, 2, none⟩ (.string ⟨#[]⟩)).cell? ⟨w.heap.size + 1, 0, none⟩ = some (.int .i64 0) := by
    rw [World.cell?_setCell_other _ _ _ _ (by simp), World.cell?_setCell_other _ _ _ _ (by simp), World.cell?_setCell_other _ _ _ _ (by simp)]; exact q1
  have hB3 : Below w.heap.size w (((w1.setCell ⟨w.heap.size, 0, none⟩ (.int .i64 0)).setCell ⟨w.heap.size, 1, none⟩ (.int .i64 0)).setCell ⟨w.heap.size, 2, none⟩ (.string ⟨#[]⟩)) :=
    ((hBel.setCell (p := ⟨w.heap.size, 0, none⟩) (Nat.le_refl _) _).setCell (p := ⟨w.heap.size, 1, none⟩) (Nat.le_refl _) _).setCell (p := ⟨w.heap.size, 2, none⟩) (Nat.le_refl _) _
  generalize (((w1.setCell ⟨w.heap.size, 0, none⟩ (.int .i64 0)).setCell ⟨w.heap.size, 1, none⟩ (.int .i64 0)).setCell ⟨w.heap.size, 2, none⟩ (.string ⟨#[]⟩)) = W3 at *
  have k0 : (W3.setCell ⟨w.heap.size + 1, 0, none⟩ (.int .i64 100)).cell? ⟨w.heap.size, 0, none⟩ = some (.int .i64 0) := (World.cell?_setCell_other _ _ _ _ (by simp)).trans e0
  have k1 : (W3.setCell ⟨w.heap.size + 1, 0, none⟩ (.int .i64 100)).cell? ⟨w.heap.size, 1, none⟩ = some (.int .i64 0) := (World.cell?_setCell_other _ _ _ _ (by simp)).trans e1
  have k2 : (W3.setCell ⟨w.heap.size + 1, 0, none⟩ (.int .i64 100)).cell? ⟨w.heap.size, 2, none⟩ = some (.string ⟨#[]⟩) := (World.cell?_setCell_other _ _ _ _ (by simp)).trans e2
  have k3 : (W3.setCell ⟨w.heap.size + 1, 0, none⟩ (.int .i64 100)).cell? ⟨w.heap.size + 1, 0, none⟩ = some (.int .i64 100) := World.cell?_setCell_same' _ _ _ (by rw [g3]; rfl)
  simp [Leaves, settle, results, Tryz.results17, go_sem, k0, k1, k2, k3]
  exact hB3.setCell (p := ⟨w.heap.size + 1, 0, none⟩) (by simp) _

set_option maxRecDepth 100000 in
set_option maxHeartbeats 1000000 in
theorem Decode_yes (a b : Int) (s : ByteArray) (w : World) (n0 n1 : Int) (x : ByteArray) (hd : ∀ w, Calls Tryz.prog 64 #[.int .i64 a, .int .i64 b, .string s] w fun e w' => e = .returned (.agg #[.int .i64 n0, .int .i64 n1, .string x]) ∧ Below w.heap.size w w') :
    Calls Tryz.prog 17 #[.int .i64 a, .int .i64 b, .string s] w fun e w' => e = .returned (.tuple #[.agg #[.int .i64 n0, .int .i64 n1, .string x], .int .i64 0]) ∧ Below w.heap.size w w' := by
  have hmf : ∀ (fn : Fn) (first cap : Array Value) (w : World), (Instr.makeFunc fn first cap).run Tryz.prog w = .ok (.func fn first cap) w := fun _ _ _ _ => rfl
  have Hc := Lib.hid hd
  clear hd
  go_enter_defers Tryz.func17, Tryz.ntmps17
  go_wp2_with (go_at_call 64; refine (Hc.out _).mono ?_; rintro e w1 ⟨rfl, hb1⟩; obtain ⟨⟨p0, p1, p2⟩, f0, f1, f2⟩ := cells3 (bblock hb1 (heap2_0 _ _ _)); obtain ⟨q1, q2⟩ := cell_of_box (bblock hb1 (heap2_1 _ _ _)))
  refine leaves_cons (f := 63) (args := #[.pointer (some ⟨w.heap.size, 0, none⟩), .pointer (some ⟨w.heap.size + 1, 0, none⟩)]) (by simp) (by simp [go_sem]) ?_
  refine (catchD_idle _ _ _).mono ?_
  rintro e u' w'' ⟨rfl, rfl, rfl⟩
  have hBel : Below w.heap.size w w1 := Below.trans (below_alloc (below_alloc (Below.refl _ _))) (hb1.mono (by simp; omega))
  obtain ⟨e0, e1, e2⟩ := set3 (W := w1) (B := w.heap.size) (v0 := .int .i64 n0) (v1 := .int .i64 n1) (v2 := .string x) p0 p1 p2
  have g3 : (((w1.setCell ⟨w.heap.size, 0, none⟩ (.int .i64 n0)).setCell ⟨w.heap.size, 1, none⟩ (.int .i64 n1)).setCell ⟨w.heap.size, 2, none⟩ (.string x)).cell? ⟨w.heap.size + 1, 0, none⟩ = some (.int .i64 0) := by
    rw [World.cell?_setCell_other _ _ _ _ (by simp), World.cell?_setCell_other _ _ _ _ (by simp), World.cell?_setCell_other _ _ _ _ (by simp)]; exact q1
  have hB3 : Below w.heap.size w (((w1.setCell ⟨w.heap.size, 0, none⟩ (.int .i64 n0)).setCell ⟨w.heap.size, 1, none⟩ (.int .i64 n1)).setCell ⟨w.heap.size, 2, none⟩ (.string x)) :=
    ((hBel.setCell (p := ⟨w.heap.size, 0, none⟩) (Nat.le_refl _) _).setCell (p := ⟨w.heap.size, 1, none⟩) (Nat.le_refl _) _).setCell (p := ⟨w.heap.size, 2, none⟩) (Nat.le_refl _) _
  generalize (((w1.setCell ⟨w.heap.size, 0, none⟩ (.int .i64 n0)).setCell ⟨w.heap.size, 1, none⟩ (.int .i64 n1)).setCell ⟨w.heap.size, 2, none⟩ (.string x)) = W3 at *
  have k0 : (W3.setCell ⟨w.heap.size + 1, 0, none⟩ (.int .i64 0)).cell? ⟨w.heap.size, 0, none⟩ = some (.int .i64 n0) := (World.cell?_setCell_other _ _ _ _ (by simp)).trans e0
  have k1 : (W3.setCell ⟨w.heap.size + 1, 0, none⟩ (.int .i64 0)).cell? ⟨w.heap.size, 1, none⟩ = some (.int .i64 n1) := (World.cell?_setCell_other _ _ _ _ (by simp)).trans e1
  have k2 : (W3.setCell ⟨w.heap.size + 1, 0, none⟩ (.int .i64 0)).cell? ⟨w.heap.size, 2, none⟩ = some (.string x) := (World.cell?_setCell_other _ _ _ _ (by simp)).trans e2
  have k3 : (W3.setCell ⟨w.heap.size + 1, 0, none⟩ (.int .i64 0)).cell? ⟨w.heap.size + 1, 0, none⟩ = some (.int .i64 0) := World.cell?_setCell_same' _ _ _ (by rw [g3]; rfl)
  simp [Leaves, settle, results, Tryz.results17, go_sem, k0, k1, k2, k3]
  exact hB3.setCell (p := ⟨w.heap.size + 1, 0, none⟩) (by simp) _

end Go.Proofs.YtmgjcjacoegocaaGreatDoor.Udp

namespace Go.Proofs.YtmgjcjacoegocaaGreatDoor.Udp
set_option maxRecDepth 100000
open Go.RowKit Go.Proofs.YtmgjcjacoegocaaGreatDoor.Wire

theorem head_length (f t : Int) (n : Nat) : (head f t n).length = 6 := by simp [head, be_length]
theorem pseudo_length (a b : Int) (n : Nat) : (pseudo a b n).length = 12 := by simp [pseudo, be_length]
theorem enc_length (a b f t : Int) (l : List UInt8) : (enc a b f t l).length = 8 + l.length := by
  simp [enc, head_length, be_length]; omega

def decOk (a b : Int) (s : ByteArray) : Prop :=
  8 ≤ s.size ∧ encOk a b (num (bytesAt s 0 2)) (num (bytesAt s 2 2)) (s.extract 8 s.size).size = true ∧ dEnc a b s = s.data.toList

theorem Decode_good (a b : Int) (s : ByteArray) (w : World) (hs : s.size ≤ 9223372036854775807) (h : decOk a b s) :
    Calls Tryz.prog 17 #[.int .i64 a, .int .i64 b, .string s] w fun e w' => e = .returned (.tuple #[.agg #[.int .i64 (num (bytesAt s 0 2)), .int .i64 (num (bytesAt s 2 2)), .string (s.extract 8 s.size)], .int .i64 0]) ∧ Below w.heap.size w w' :=
  Decode_yes a b s w _ _ _ fun w => decode_ok a b s w hs h.1 h.2.1 h.2.2
theorem Decode_err (a b : Int) (s : ByteArray) (w : World) (hs : s.size ≤ 9223372036854775807) (h : ¬ decOk a b s) :
    Calls Tryz.prog 17 #[.int .i64 a, .int .i64 b, .string s] w fun e w' => e = .returned (.tuple #[.agg #[.int .i64 0, .int .i64 0, .string ⟨#[]⟩], .int .i64 100]) ∧ Below w.heap.size w w' := by
  by_cases h8 : 8 ≤ s.size
  · cases hk : encOk a b (num (bytesAt s 0 2)) (num (bytesAt s 2 2)) (s.extract 8 s.size).size
    · exact Decode_no a b s w fun w => decode_bad a b s w hs h8 hk
    · exact Decode_no a b s w fun w => decode_other a b s w hs h8 hk fun he => h ⟨h8, hk, he⟩
  · exact Decode_no a b s w fun w => decode_short a b s w (by omega)

theorem extract_tail (l : List UInt8) (k : Nat) : ((⟨l.toArray⟩ : ByteArray).extract k (⟨l.toArray⟩ : ByteArray).size).data.toList = l.drop k := by
  have e : (⟨l.toArray⟩ : ByteArray).size = l.length := rfl
  rw [e]
  simp [ByteArray.data_extract]
  exact List.take_of_length_le (by simp)
theorem extract_size (s : ByteArray) (k : Nat) : (s.extract k s.size).size = s.size - k := by simp

theorem enc_from (a b f t : Int) (l : List UInt8) (h0 : 0 ≤ f) (h1 : f < 65536) : num (bytesAt ⟨(enc a b f t l).toArray⟩ 0 2) = f := by
  have e : bytesAt ⟨(enc a b f t l).toArray⟩ 0 2 = be 2 f := by
    show ((enc a b f t l).drop 0).take 2 = _
    unfold enc head
    rw [List.drop_zero, List.append_assoc, List.append_assoc, List.append_assoc, List.take_append_of_le_length (by simp [be_length])]
    exact List.take_of_length_le (by simp [be_length])
  rw [e]; exact num_be 2 f h0 (by simpa using h1)
theorem enc_to (a b f t : Int) (l : List UInt8) (h0 : 0 ≤ t) (h1 : t < 65536) : num (bytesAt ⟨(enc a b f t l).toArray⟩ 2 2) = t := by
  have e : bytesAt ⟨(enc a b f t l).toArray⟩ 2 2 = be 2 t := by
    show ((enc a b f t l).drop 2).take 2 = _
    unfold enc head
    rw [List.append_assoc, List.append_assoc, List.append_assoc, List.drop_append_of_le_length (by simp [be_length]), List.drop_of_length_le (by simp [be_length]), List.nil_append, List.take_append_of_le_length (by simp [be_length])]
    exact List.take_of_length_le (by simp [be_length])
  rw [e]; exact num_be 2 t h0 (by simpa using h1)
theorem enc_rest (a b f t : Int) (l : List UInt8) : ((⟨(enc a b f t l).toArray⟩ : ByteArray).extract 8 (⟨(enc a b f t l).toArray⟩ : ByteArray).size).data.toList = l := by
  rw [extract_tail]
  unfold enc
  rw [List.drop_append_of_le_length (by simp [head_length, be_length]), List.drop_of_length_le (by simp [head_length, be_length]), List.nil_append]

theorem valid_ports {f t : Int} {k : Nat} (h : validB f t k = true) : (1 ≤ f ∧ f ≤ 65535) ∧ (1 ≤ t ∧ t ≤ 65535) ∧ k ≤ 2000 := by
  simp [validB, portB] at h; omega
theorem enc_valid {a b f t : Int} {k : Nat} (h : encOk a b f t k = true) : validB f t k = true ∧ (a == 0) = false ∧ (b == 0) = false ∧ addrB a = true ∧ addrB b = true := by
  simp only [encOk, Bool.and_eq_true, Bool.not_eq_true'] at h
  exact ⟨h.1.1.1.1, h.1.1.1.2, h.1.1.2, h.1.2, h.2⟩

theorem round (a b f t : Int) (l : List UInt8) (h : encOk a b f t l.length = true) : decOk a b ⟨(enc a b f t l).toArray⟩ := by
  obtain ⟨⟨hf1, hf2⟩, ⟨ht1, ht2⟩, hl⟩ := valid_ports (enc_valid h).1
  have e1 := enc_from a b f t l (by omega) (by omega)
  have e2 := enc_to a b f t l (by omega) (by omega)
  have e3 := enc_rest a b f t l
  have e4 : ((⟨(enc a b f t l).toArray⟩ : ByteArray).extract 8 (⟨(enc a b f t l).toArray⟩ : ByteArray).size).size = l.length := congrArg List.length e3
  refine ⟨by rw [sz, enc_length]; omega, ?_, ?_⟩
  · rw [e1, e2, e4]; exact h
  · unfold dEnc; rw [e1, e2, e3]

/-- whatever is decoded: the words of the pseudo-header and of the datagram sum up to a multiple of 65535 -/
theorem dec_sum (a b : Int) (s : ByteArray) (h : decOk a b s) : (ws (pseudo a b (s.size - 8)) + ws s.data.toList) % 65535 = 0 := by
  obtain ⟨h8, hk, he⟩ := h
  rw [← he]
  unfold dEnc
  generalize hf : num (bytesAt s 0 2) = f at *
  generalize ht : num (bytesAt s 2 2) = t at *
  have hl : (s.extract 8 s.size).data.toList.length = s.size - 8 := extract_size s 8
  generalize (s.extract 8 s.size).data.toList = l at *
  have hb := csum_bd ⟨(pseudo a b l.length ++ head f t l.length ++ be 2 0 ++ l).toArray⟩
  have hm := csum_mod (pseudo a b l.length ++ head f t l.length ++ be 2 0 ++ l)
  have e1 : ws (pseudo a b l.length ++ head f t l.length ++ be 2 0 ++ l) = ws (pseudo a b l.length) + ws (head f t l.length) + ws (be 2 0) + ws l := by
    rw [ws_append _ _ (by simp [pseudo_length, head_length, be_length]), ws_append _ _ (by simp [pseudo_length, head_length]), ws_append _ _ (by simp [pseudo_length])]
  have e2 : ws (enc a b f t l) = ws (head f t l.length) + csum ⟨(pseudo a b l.length ++ head f t l.length ++ be 2 0 ++ l).toArray⟩ + ws l := by
    unfold enc sumOf
    rw [ws_append _ _ (by simp [head_length, be_length]), ws_append _ _ (by simp [head_length]), ws_be2 _ hb.1 (by omega)]
  have e3 : ws (be 2 0) = 0 := ws_be2 0 (by omega) (by omega)
  rw [← hl, e2]
  rw [e1, e3] at hm
  omega

/-- one byte changed: not decoded -/
theorem flip_bad (a b : Int) (s : ByteArray) (h : decOk a b s) (k : Nat) (v : UInt8) (hk : k < s.data.toList.length) (hv : v ≠ s.data.toList[k]) : ¬ decOk a b ⟨(s.data.toList.set k v).toArray⟩ := by
  intro h'
  have h1 := dec_sum a b s h
  have h2 := dec_sum a b _ h'
  have e : (⟨(s.data.toList.set k v).toArray⟩ : ByteArray).size = s.size := by rw [sz, List.length_set]; rfl
  rw [e] at h2
  have e2 : (⟨(s.data.toList.set k v).toArray⟩ : ByteArray).data.toList = s.data.toList.set k v := by simp
  rw [e2, ws_set _ _ _ hk] at h2
  have hb1 := u8_bd v
  have hb2 := u8_bd s.data.toList[k]
  have hne : (v.toNat : Int) ≠ (s.data.toList[k].toNat : Int) := fun q => hv (UInt8.toNat_inj.1 (Int.ofNat_inj.1 q))
  split at h2 <;> omega

/-- another length: not decoded -/
theorem length_bad (a b : Int) (l : List UInt8) (hl : l.length ≤ 2000) (s : ByteArray) (hs : s.size ≠ 8 + l.length) (hs2 : s.size ≤ 60000) (hp : bytesAt s 4 2 = be 2 (8 + l.length)) : ¬ decOk a b s := by
  intro h
  obtain ⟨h8, hk, he⟩ := h
  have hx : (s.extract 8 s.size).data.toList.length = s.size - 8 := extract_size s 8
  have e : bytesAt s 4 2 = be 2 (8 + (s.extract 8 s.size).data.toList.length) := by
    unfold bytesAt
    rw [← he]
    unfold dEnc enc head
    rw [List.append_assoc, List.append_assoc, List.append_assoc, List.drop_append, List.drop_of_length_le (by simp [be_length]), List.nil_append, be_length, List.drop_append, List.drop_of_length_le (by simp [be_length]), List.nil_append, be_length]
    rw [List.drop_zero, List.take_append_of_le_length (by simp [be_length])]
    exact List.take_of_length_le (by simp [be_length])
  rw [hp, hx] at e
  have := be_inj 2 _ _ (by omega) (by simp; omega) (by omega) (by simp; omega) e
  omega

/-- another source address whose words sum up to something else: not decoded -/
theorem source_bad (a b a' : Int) (s : ByteArray) (h : decOk a b s) (hd : (ws (be 4 a') - ws (be 4 a)) % 65535 ≠ 0) : ¬ decOk a' b s := by
  intro h'
  have h1 := dec_sum a b s h
  have h2 := dec_sum a' b s h'
  have e : ∀ x, ws (pseudo x b (s.size - 8)) = ws (be 4 x) + ws (be 4 b ++ be 1 0 ++ be 1 17 ++ be 2 (8 + (s.size - 8 : Nat))) := by
    intro x
    unfold pseudo
    rw [List.append_assoc, List.append_assoc, List.append_assoc, ws_append _ _ (by simp [be_length])]
    congr 2
  rw [e] at h1 h2
  omega
end Go.Proofs.YtmgjcjacoegocaaGreatDoor.Udp
