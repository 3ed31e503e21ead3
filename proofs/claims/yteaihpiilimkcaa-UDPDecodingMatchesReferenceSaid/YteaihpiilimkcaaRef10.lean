/-
  Contracts of the reference of chapter 10.
-/
import Derived.Test.YteaihpiilimkcaaRef01
import Derived.Test.YteaihpiilimkcaaUdpSane
namespace Go.Proofs.Yteaihpiilimkcaa.Udp
open Go.RowKit Go.Proofs.Yteaihpiilimkcaa.Wire

set_option maxHeartbeats 400000 in
theorem rvalid_any (f t : Int) (s : ByteArray) (w : World) (_ : s.size ≤ 9223372036854775807) : Calls Try.prog 15 #[.agg #[.int .i64 f, .int .i64 t, .string s]] w fun e w' => e = .returned (.bool (validB f t s.size)) ∧ Below w.heap.size w w' := by
  go_enter Try.func15, Try.ntmps15
  go_wp2
  all_goals
    go_ret
    exact ⟨ret_bool (by simp [validB, portB, *]; try omega), (Below.refl _ _).alloc (Nat.le_refl _) _⟩

theorem rnum_any (n : Int) (k : Int) (w : World) (h1 : 1 ≤ k) (h4 : k ≤ 4) (h0 : 0 ≤ n) (hn : n < 256 ^ k.toNat) :
    Calls Try.prog 20 #[.int .i64 n, .int .i64 k] w fun e w' => e = .returned (.string ⟨(be k.toNat n).toArray⟩) ∧ Below w.heap.size w w' := by
  obtain ⟨k, rfl⟩ := Int.eq_ofNat_of_zero_le (show 0 ≤ k by omega)
  rw [Int.toNat_natCast] at hn ⊢
  have Hp := Lib.hid (rput_ok n k w (by omega) (by omega) h0 hn)
  clear hn
  generalize be k n = l at *
  go_enter Try.func20, Try.ntmps20
  go_wp2_with (go_at_call 29; refine (Hp.out).mono ?_; rintro e w' ⟨rfl, hb⟩)
  go_ret
  exact ⟨rfl, hb⟩

theorem be2_17 : be 1 0 ++ be 1 17 = be 2 17 := by decide
def rsum (a b f t : Int) (l : List UInt8) : Int := csum ⟨(be 4 a ++ be 4 b ++ be 2 17 ++ be 2 (8 + l.length) ++ (be 2 f ++ be 2 t ++ be 2 (8 + l.length)) ++ be 2 0 ++ l).toArray⟩
theorem rsum_eq (a b f t : Int) (l : List UInt8) : rsum a b f t l = sumOf a b f t l := by
  unfold rsum sumOf pseudo head
  rw [← be2_17]; simp only [List.append_assoc]

theorem ret2_str {a b : ByteArray} {v : Value} (h : a = b) : Ending.returned (.tuple #[.string a, v]) = .returned (.tuple #[.string b, v]) := by rw [h]
theorem ba_append_s (l : List UInt8) (s : ByteArray) : (⟨l.toArray⟩ : ByteArray) ++ s = ⟨(l ++ s.data.toList).toArray⟩ := by
  apply ByteArray.ext
  simp [ByteArray.data_append]
def SumPostQ (x : ByteArray) (w : World) (e : Ending) (w' : World) : Prop := ∃ m : Int, e = .returned (.int .i64 m) ∧ Hid (m = csum x) ∧ 0 ≤ m ∧ m ≤ 65535 ∧ w = w'
theorem rchecksum_any' (s : ByteArray) (w : World) (hs : s.size ≤ 1000000) : Calls Try.prog 21 #[.string s] w (SumPostQ s w) :=
  (rchecksum_any s w hs).mono fun _ _ ⟨he, hw⟩ => ⟨_, he, Lib.hid rfl, (csum_bd _).1, (csum_bd _).2, hw⟩

def goodEnds (a b : Int) : Bool := decide (1 ≤ a) && decide (a ≤ 4294967295) && decide (1 ≤ b) && decide (b ≤ 4294967295)
set_option maxRecDepth 100000 in
set_option maxHeartbeats 2000000 in
theorem rencode_ok (a b f t : Int) (s : ByteArray) (w : World) (hv : validB f t s.size = true) (ha : 1 ≤ a) (ha1 : a ≤ 4294967295) (hb : 1 ≤ b) (hb1 : b ≤ 4294967295) :
    Calls Try.prog 13 #[.int .i64 a, .int .i64 b, .agg #[.int .i64 f, .int .i64 t, .string s]] w fun e w' => e = .returned (.tuple #[.string ⟨(enc a b f t s.data.toList).toArray⟩, .int .i64 0]) ∧ Below w.heap.size w w' := by
  have hs : s.size ≤ 2000 := by simp [validB] at hv; omega
  have hf1 : 1 ≤ f ∧ f ≤ 65535 := by simp [validB, portB] at hv; omega
  have ht1 : 1 ≤ t ∧ t ≤ 65535 := by simp [validB, portB] at hv; omega
  have bl := be_length
  have hsz2 : ¬ 9223372036854775807 < 20 + s.size := by omega
  go_enter Try.func13, Try.ntmps13
  have HB := Below.refl w.heap.size w
  have Hu := Lib.hid (alloc_new' w (.cells #[.int .i64 f, .int .i64 t, .string s] 26) (w.heap.size) (by simp))
  have HB' := below_alloc (o := .cells #[.int .i64 f, .int .i64 t, .string s] 26) HB; clear HB; have HB := HB'; clear HB'
  have Su := cells3 Hu.out
  obtain ⟨⟨qu0, qu1, qu2⟩, zu0, zu1, zu2⟩ := Su
  go_wp2_with fail
  refine (rvalid_any _ _ _ _ (by omega)).mono ?_
  rintro e w1 ⟨rfl, hb⟩
  clear qu0 zu0 qu1 zu1 qu2 zu2
  have Hu' := Lib.hid (bblock hb Hu.out); clear Hu; have Hu := Hu'; clear Hu'
  have HB' := below_call HB hb; clear HB hb; have HB := HB'; clear HB'; have hz1 := HB.size
  rw [hv]; clear hv
  have Su := cells3 Hu.out
  obtain ⟨⟨qu0, qu1, qu2⟩, zu0, zu1, zu2⟩ := Su
  go_wp2_with fail
  clear qu0 zu0 qu1 zu1 qu2 zu2
  go_region_held3 (fun w' => w'.cell? ⟨w.heap.size, 0, none⟩ = some (.int .i64 f) ∧ w'.cell? ⟨w.heap.size, 1, none⟩ = some (.int .i64 t) ∧ w'.cell? ⟨w.heap.size, 2, none⟩ = some (.string s) ∧ w'.heap[w.heap.size]? = some (.cells #[.int .i64 f, .int .i64 t, .string s] 26) ∧ Below w.heap.size w w') (first | exact ⟨(cell_of_block Hu.out rfl).1, (cell_of_block Hu.out rfl).1, (cell_of_block Hu.out rfl).1, Hu.out, HB.drew⟩ | (go_split_ands; exact ⟨by assumption, by assumption, by assumption, by assumption, by assumption⟩) | (go_split_ands; exact ⟨bcell (by assumption) (by assumption), bcell (by assumption) (by assumption), bcell (by assumption) (by assumption), bblock (by assumption) (by assumption), below_call (by assumption) (by assumption)⟩) | (go_split_ands; exact ⟨cell_alloc' _ (by assumption), cell_alloc' _ (by assumption), cell_alloc' _ (by assumption), block_alloc (by assumption) _, below_alloc (by assumption)⟩))
    (first | (go_at_call 20; refine (rnum_any _ _ _ (by omega) (by omega) (by omega) (by first | (simp; done) | (simp; omega))).mono ?_; rintro e a1 ⟨rfl, hb_a1⟩))
  rename_i hH
  obtain ⟨_, _, _, Ku, HB'⟩ := hH
  clear Hu; have Hu := Lib.hid Ku; clear Ku
  clear HB; have HB := HB'; clear HB'; have hz := HB.size
  go_wp2_with fail
  go_region_held3 (fun w' => w'.cell? ⟨w.heap.size, 0, none⟩ = some (.int .i64 f) ∧ w'.cell? ⟨w.heap.size, 1, none⟩ = some (.int .i64 t) ∧ w'.cell? ⟨w.heap.size, 2, none⟩ = some (.string s) ∧ w'.heap[w.heap.size]? = some (.cells #[.int .i64 f, .int .i64 t, .string s] 26) ∧ Below w.heap.size w w') (first | exact ⟨(cell_of_block Hu.out rfl).1, (cell_of_block Hu.out rfl).1, (cell_of_block Hu.out rfl).1, Hu.out, HB.drew⟩ | (go_split_ands; exact ⟨by assumption, by assumption, by assumption, by assumption, by assumption⟩) | (go_split_ands; exact ⟨bcell (by assumption) (by assumption), bcell (by assumption) (by assumption), bcell (by assumption) (by assumption), bblock (by assumption) (by assumption), below_call (by assumption) (by assumption)⟩) | (go_split_ands; exact ⟨cell_alloc' _ (by assumption), cell_alloc' _ (by assumption), cell_alloc' _ (by assumption), block_alloc (by assumption) _, below_alloc (by assumption)⟩))
    (first | (go_at_call 20; refine (rnum_any _ _ _ (by omega) (by omega) (by omega) (by first | (simp; done) | (simp; omega))).mono ?_; rintro e a2 ⟨rfl, hb_a2⟩) | (go_at_call 21; refine (rchecksum_any' _ _ (by simp [ByteArray.size_append, sz, bl]; omega)).mono ?_; rintro e a3 ⟨sm, rfl, hsm, hs0, hs1, rfl⟩))
  rename_i hH
  obtain ⟨_, _, _, Ku, HB'⟩ := hH
  clear Hu; have Hu := Lib.hid Ku; clear Ku
  clear HB; have HB := HB'; clear HB'; have hz := HB.size
  have hsz : ¬ 9223372036854775807 < 8 + s.size := by omega
  go_wp2_with fail
  go_region_held3 (fun w' => w'.cell? ⟨w.heap.size, 0, none⟩ = some (.int .i64 f) ∧ w'.cell? ⟨w.heap.size, 1, none⟩ = some (.int .i64 t) ∧ w'.cell? ⟨w.heap.size, 2, none⟩ = some (.string s) ∧ w'.heap[w.heap.size]? = some (.cells #[.int .i64 f, .int .i64 t, .string s] 26) ∧ Below w.heap.size w w') (first | exact ⟨(cell_of_block Hu.out rfl).1, (cell_of_block Hu.out rfl).1, (cell_of_block Hu.out rfl).1, Hu.out, HB.drew⟩ | (go_split_ands; exact ⟨by assumption, by assumption, by assumption, by assumption, by assumption⟩) | (go_split_ands; exact ⟨bcell (by assumption) (by assumption), bcell (by assumption) (by assumption), bcell (by assumption) (by assumption), bblock (by assumption) (by assumption), below_call (by assumption) (by assumption)⟩) | (go_split_ands; exact ⟨cell_alloc' _ (by assumption), cell_alloc' _ (by assumption), cell_alloc' _ (by assumption), block_alloc (by assumption) _, below_alloc (by assumption)⟩))
    (first | (go_at_call 20; refine (rnum_any _ _ _ (by omega) (by omega) (by omega) (by first | (simp; done) | (simp; omega))).mono ?_; rintro e a4 ⟨rfl, hb_a4⟩))
  rename_i hH
  obtain ⟨_, _, _, Ku, HB'⟩ := hH
  clear Hu; have Hu := Lib.hid Ku; clear Ku
  clear HB; have HB := HB'; clear HB'; have hz := HB.size
  go_wp2_with fail
  go_ret2
  refine ⟨ret2_str ?_, HB⟩
  have he : sm = sumOf a b f t s.data.toList := by
    rw [hsm.out, ← rsum_eq]
    unfold rsum
    have e1 : (s.data.toList).length = s.size := rfl
    simp only [ba_append_s, e1]
  subst he
  have hq := enc_eq a b f t s.data.toList
  rw [← ba_self s] at hq
  exact hq

set_option maxHeartbeats 1000000 in
theorem rencode_no (a b f t : Int) (s : ByteArray) (w : World) (hs : s.size ≤ 9223372036854775807) (h : (validB f t s.size && goodEnds a b) = false) :
    Calls Try.prog 13 #[.int .i64 a, .int .i64 b, .agg #[.int .i64 f, .int .i64 t, .string s]] w fun e w' => e = .returned (.tuple #[.string ⟨#[]⟩, .int .i64 100]) ∧ Below w.heap.size w w' := by
  have hV := Lib.hid fun W => rvalid_any f t s W hs
  cases hv : validB f t s.size
  · rw [hv] at hV
    clear h hv
    go_enter Try.func13, Try.ntmps13
    go_wp2_with (go_at_call 15; refine (hV.out _).mono ?_; rintro e w1 ⟨rfl, hb1⟩)
    go_ret2
    exact ⟨rfl, below_call (below_alloc (Below.refl _ _)) hb1⟩
  · rw [hv] at hV h
    clear hv
    have h' : a < 1 ∨ 4294967295 < a ∨ b < 1 ∨ 4294967295 < b := by simp [goodEnds] at h; omega
    clear h
    go_enter Try.func13, Try.ntmps13
    go_wp2_with (go_at_call 15; refine (hV.out _).mono ?_; rintro e w1 ⟨rfl, hb1⟩)
    all_goals first
      | omega
      | (go_ret2
         exact ⟨rfl, below_call (below_alloc (Below.refl _ _)) hb1⟩)

theorem encOk_eq (a b f t : Int) (n : Nat) : encOk a b f t n = (validB f t n && goodEnds a b) := by
  unfold encOk; cases validB f t n <;> (rw [Bool.eq_iff_iff]; simp [goodEnds, addrB] <;> omega)
theorem rEncode_ok (a b f t : Int) (s : ByteArray) (w : World) (h : encOk a b f t s.size = true) :
    Calls Try.prog 13 #[.int .i64 a, .int .i64 b, .agg #[.int .i64 f, .int .i64 t, .string s]] w fun e w' => e = .returned (.tuple #[.string ⟨(enc a b f t s.data.toList).toArray⟩, .int .i64 0]) ∧ Below w.heap.size w w' := by
  rw [encOk_eq] at h
  simp only [goodEnds, Bool.and_eq_true, decide_eq_true_eq] at h
  exact rencode_ok a b f t s w h.1 h.2.1.1.1 h.2.1.1.2 h.2.1.2 h.2.2
theorem rEncode_no (a b f t : Int) (s : ByteArray) (w : World) (hs : s.size ≤ 9223372036854775807) (h : encOk a b f t s.size = false) :
    Calls Try.prog 13 #[.int .i64 a, .int .i64 b, .agg #[.int .i64 f, .int .i64 t, .string s]] w fun e w' => e = .returned (.tuple #[.string ⟨#[]⟩, .int .i64 100]) ∧ Below w.heap.size w w' :=
  rencode_no a b f t s w hs (by rw [← encOk_eq]; exact h)

set_option maxHeartbeats 1000000 in
theorem rDecode_short (a b : Int) (s : ByteArray) (w : World) (hs : s.size < 8) :
    Calls Try.prog 17 #[.int .i64 a, .int .i64 b, .string s] w fun e w' => e = .returned (.tuple #[.agg #[.int .i64 0, .int .i64 0, .string ⟨#[]⟩], .int .i64 100]) ∧ Below w.heap.size w w' := by
  go_enter Try.func17, Try.ntmps17
  go_wp2_with fail
  exact bodyPost_ret (v := .tuple #[.agg #[.int .i64 0, .int .i64 0, .string ⟨#[]⟩], .int .i64 100]) (by simp [results, Try.results17, go_sem]) rfl ⟨rfl, below_alloc (Below.refl _ _)⟩

set_option maxRecDepth 100000 in
set_option maxHeartbeats 1000000 in
theorem rDecode_bad (a b : Int) (s : ByteArray) (w : World) (hs : s.size ≤ 9223372036854775807) (h8 : 8 ≤ s.size) (hk : encOk a b (num (bytesAt s 0 2)) (num (bytesAt s 2 2)) (s.extract 8 s.size).size = false) :
    Calls Try.prog 17 #[.int .i64 a, .int .i64 b, .string s] w fun e w' => e = .returned (.tuple #[.agg #[.int .i64 0, .int .i64 0, .string ⟨#[]⟩], .int .i64 100]) ∧ Below w.heap.size w w' := by
  have Hc := Lib.hid fun w => rEncode_no a b _ _ (s.extract 8 s.size) w (by simp; omega) hk
  clear hk
  go_enter Try.func17, Try.ntmps17
  have HB := Below.refl w.heap.size w
  have Hr := Lib.hid (alloc_new' w (.cells #[.int .i64 0, .int .i64 0, .string ⟨#[]⟩] 26) (w.heap.size) (by simp))
  have HB' := below_alloc (o := .cells #[.int .i64 0, .int .i64 0, .string ⟨#[]⟩] 26) HB; clear HB; have HB := HB'; clear HB'
  go_wp2_with fail
  refine (rget_ok s 0 2 _ (by omega) (by omega) hs (by omega)).mono ?_
  rintro e w' ⟨rfl, rfl⟩
  go_wp2_with fail
  refine (rget_ok s 2 2 _ (by omega) (by omega) hs (by omega)).mono ?_
  rintro e w' ⟨rfl, rfl⟩
  generalize hn0 : num (bytesAt s 0 2) = n0 at *; generalize hn1 : num (bytesAt s 2 2) = n1 at *; have Hn0 := Lib.hid hn0; have Hn1 := Lib.hid hn1; clear hn0 hn1
  have Hu := Lib.hid (alloc_new' (w.alloc (.cells #[.int .i64 0, .int .i64 0, .string ⟨#[]⟩] 26)) (.cells #[.int .i64 n0, .int .i64 n1, .string (s.extract 8 s.size)] 26) (w.heap.size + 1) (by simp))
  have Hr' := Lib.hid (block_alloc Hr.out (.cells #[.int .i64 n0, .int .i64 n1, .string (s.extract 8 s.size)] 26)); clear Hr; have Hr := Hr'; clear Hr'
  have HB' := below_alloc (o := .cells #[.int .i64 n0, .int .i64 n1, .string (s.extract 8 s.size)] 26) HB; clear HB; have HB := HB'; clear HB'
  have Sr := cells3 Hr.out
  obtain ⟨⟨qr0, qr1, qr2⟩, zr0, zr1, zr2⟩ := Sr
  have Su := cells3 Hu.out
  obtain ⟨⟨qu0, qu1, qu2⟩, zu0, zu1, zu2⟩ := Su
  go_wp2_with fail
  refine (Hc.out _).mono ?_
  rintro e w1 ⟨rfl, hb⟩
  clear qr0 zr0 qr1 zr1 qr2 zr2
  clear qu0 zu0 qu1 zu1 qu2 zu2
  have Hr' := Lib.hid (bblock hb Hr.out); clear Hr; have Hr := Hr'; clear Hr'
  have Hu' := Lib.hid (bblock hb Hu.out); clear Hu; have Hu := Hu'; clear Hu'
  have HB' := below_call HB hb; clear HB hb; have HB := HB'; clear HB'; have hz1 := HB.size
  have Sr := cells3 Hr.out
  obtain ⟨⟨qr0, qr1, qr2⟩, zr0, zr1, zr2⟩ := Sr
  have Su := cells3 Hu.out
  obtain ⟨⟨qu0, qu1, qu2⟩, zu0, zu1, zu2⟩ := Su
  go_wp2_with fail
  exact bodyPost_ret (v := .tuple #[.agg #[.int .i64 0, .int .i64 0, .string ⟨#[]⟩], .int .i64 100]) (by simp [results, Try.results17, go_sem, *]) rfl ⟨by first | rfl | rw [Hn0.out, Hn1.out], by repeat (first | exact HB | refine Below.setCell ?_ (by simp) _)⟩

set_option maxRecDepth 100000 in
set_option maxHeartbeats 1000000 in
theorem rDecode_other (a b : Int) (s : ByteArray) (w : World) (hs : s.size ≤ 9223372036854775807) (h8 : 8 ≤ s.size) (hk : encOk a b (num (bytesAt s 0 2)) (num (bytesAt s 2 2)) (s.extract 8 s.size).size = true) (hne : dEnc a b s ≠ s.data.toList) :
    Calls Try.prog 17 #[.int .i64 a, .int .i64 b, .string s] w fun e w' => e = .returned (.tuple #[.agg #[.int .i64 0, .int .i64 0, .string ⟨#[]⟩], .int .i64 100]) ∧ Below w.heap.size w w' := by
  have Hc := Lib.hid fun w => rEncode_ok a b _ _ (s.extract 8 s.size) w hk
  have hcmp : (!(enc a b (num (bytesAt s 0 2)) (num (bytesAt s 2 2)) (s.extract 8 s.size).data.toList == s.toList)) = true := by rw [ByteArray.toList_eq]; simpa [dEnc] using hne
  generalize enc a b (num (bytesAt s 0 2)) (num (bytesAt s 2 2)) (s.extract 8 s.size).data.toList = E at *
  clear hk hne
  go_enter Try.func17, Try.ntmps17
  have HB := Below.refl w.heap.size w
  have Hr := Lib.hid (alloc_new' w (.cells #[.int .i64 0, .int .i64 0, .string ⟨#[]⟩] 26) (w.heap.size) (by simp))
  have HB' := below_alloc (o := .cells #[.int .i64 0, .int .i64 0, .string ⟨#[]⟩] 26) HB; clear HB; have HB := HB'; clear HB'
  go_wp2_with fail
  refine (rget_ok s 0 2 _ (by omega) (by omega) hs (by omega)).mono ?_
  rintro e w' ⟨rfl, rfl⟩
  go_wp2_with fail
  refine (rget_ok s 2 2 _ (by omega) (by omega) hs (by omega)).mono ?_
  rintro e w' ⟨rfl, rfl⟩
  generalize hn0 : num (bytesAt s 0 2) = n0 at *; generalize hn1 : num (bytesAt s 2 2) = n1 at *; have Hn0 := Lib.hid hn0; have Hn1 := Lib.hid hn1; clear hn0 hn1
  have Hu := Lib.hid (alloc_new' (w.alloc (.cells #[.int .i64 0, .int .i64 0, .string ⟨#[]⟩] 26)) (.cells #[.int .i64 n0, .int .i64 n1, .string (s.extract 8 s.size)] 26) (w.heap.size + 1) (by simp))
  have Hr' := Lib.hid (block_alloc Hr.out (.cells #[.int .i64 n0, .int .i64 n1, .string (s.extract 8 s.size)] 26)); clear Hr; have Hr := Hr'; clear Hr'
  have HB' := below_alloc (o := .cells #[.int .i64 n0, .int .i64 n1, .string (s.extract 8 s.size)] 26) HB; clear HB; have HB := HB'; clear HB'
  have Sr := cells3 Hr.out
  obtain ⟨⟨qr0, qr1, qr2⟩, zr0, zr1, zr2⟩ := Sr
  have Su := cells3 Hu.out
  obtain ⟨⟨qu0, qu1, qu2⟩, zu0, zu1, zu2⟩ := Su
  go_wp2_with fail
  refine (Hc.out _).mono ?_
  rintro e w1 ⟨rfl, hb⟩
  clear qr0 zr0 qr1 zr1 qr2 zr2
  clear qu0 zu0 qu1 zu1 qu2 zu2
  have Hr' := Lib.hid (bblock hb Hr.out); clear Hr; have Hr := Hr'; clear Hr'
  have Hu' := Lib.hid (bblock hb Hu.out); clear Hu; have Hu := Hu'; clear Hu'
  have HB' := below_call HB hb; clear HB hb; have HB := HB'; clear HB'; have hz1 := HB.size
  have Sr := cells3 Hr.out
  obtain ⟨⟨qr0, qr1, qr2⟩, zr0, zr1, zr2⟩ := Sr
  have Su := cells3 Hu.out
  obtain ⟨⟨qu0, qu1, qu2⟩, zu0, zu1, zu2⟩ := Su
  go_wp2_with fail
  exact bodyPost_ret (v := .tuple #[.agg #[.int .i64 0, .int .i64 0, .string ⟨#[]⟩], .int .i64 100]) (by simp [results, Try.results17, go_sem, *]) rfl ⟨by first | rfl | rw [Hn0.out, Hn1.out], by repeat (first | exact HB | refine Below.setCell ?_ (by simp) _)⟩

set_option maxRecDepth 100000 in
set_option maxHeartbeats 1000000 in
theorem rDecode_ok (a b : Int) (s : ByteArray) (w : World) (hs : s.size ≤ 9223372036854775807) (h8 : 8 ≤ s.size) (hk : encOk a b (num (bytesAt s 0 2)) (num (bytesAt s 2 2)) (s.extract 8 s.size).size = true) (hne : dEnc a b s = s.data.toList) :
    Calls Try.prog 17 #[.int .i64 a, .int .i64 b, .string s] w fun e w' => e = .returned (.tuple #[.agg #[.int .i64 (num (bytesAt s 0 2)), .int .i64 (num (bytesAt s 2 2)), .string (s.extract 8 s.size)], .int .i64 0]) ∧ Below w.heap.size w w' := by
  have Hc := Lib.hid fun w => rEncode_ok a b _ _ (s.extract 8 s.size) w hk
  have hcmp : (!(enc a b (num (bytesAt s 0 2)) (num (bytesAt s 2 2)) (s.extract 8 s.size).data.toList == s.toList)) = false := by rw [ByteArray.toList_eq]; simpa [dEnc] using hne
  generalize enc a b (num (bytesAt s 0 2)) (num (bytesAt s 2 2)) (s.extract 8 s.size).data.toList = E at *
  clear hk hne
  go_enter Try.func17, Try.ntmps17
  have HB := Below.refl w.heap.size w
  have Hr := Lib.hid (alloc_new' w (.cells #[.int .i64 0, .int .i64 0, .string ⟨#[]⟩] 26) (w.heap.size) (by simp))
  have HB' := below_alloc (o := .cells #[.int .i64 0, .int .i64 0, .string ⟨#[]⟩] 26) HB; clear HB; have HB := HB'; clear HB'
  go_wp2_with fail
  refine (rget_ok s 0 2 _ (by omega) (by omega) hs (by omega)).mono ?_
  rintro e w' ⟨rfl, rfl⟩
  go_wp2_with fail
  refine (rget_ok s 2 2 _ (by omega) (by omega) hs (by omega)).mono ?_
  rintro e w' ⟨rfl, rfl⟩
  generalize hn0 : num (bytesAt s 0 2) = n0 at *; generalize hn1 : num (bytesAt s 2 2) = n1 at *; have Hn0 := Lib.hid hn0; have Hn1 := Lib.hid hn1; clear hn0 hn1
  have Hu := Lib.hid (alloc_new' (w.alloc (.cells #[.int .i64 0, .int .i64 0, .string ⟨#[]⟩] 26)) (.cells #[.int .i64 n0, .int .i64 n1, .string (s.extract 8 s.size)] 26) (w.heap.size + 1) (by simp))
  have Hr' := Lib.hid (block_alloc Hr.out (.cells #[.int .i64 n0, .int .i64 n1, .string (s.extract 8 s.size)] 26)); clear Hr; have Hr := Hr'; clear Hr'
  have HB' := below_alloc (o := .cells #[.int .i64 n0, .int .i64 n1, .string (s.extract 8 s.size)] 26) HB; clear HB; have HB := HB'; clear HB'
  have Sr := cells3 Hr.out
  obtain ⟨⟨qr0, qr1, qr2⟩, zr0, zr1, zr2⟩ := Sr
  have Su := cells3 Hu.out
  obtain ⟨⟨qu0, qu1, qu2⟩, zu0, zu1, zu2⟩ := Su
  go_wp2_with fail
  refine (Hc.out _).mono ?_
  rintro e w1 ⟨rfl, hb⟩
  clear qr0 zr0 qr1 zr1 qr2 zr2
  clear qu0 zu0 qu1 zu1 qu2 zu2
  have Hr' := Lib.hid (bblock hb Hr.out); clear Hr; have Hr := Hr'; clear Hr'
  have Hu' := Lib.hid (bblock hb Hu.out); clear Hu; have Hu := Hu'; clear Hu'
  have HB' := below_call HB hb; clear HB hb; have HB := HB'; clear HB'; have hz1 := HB.size
  have Sr := cells3 Hr.out
  obtain ⟨⟨qr0, qr1, qr2⟩, zr0, zr1, zr2⟩ := Sr
  have Su := cells3 Hu.out
  obtain ⟨⟨qu0, qu1, qu2⟩, zu0, zu1, zu2⟩ := Su
  go_wp2_with fail
  exact bodyPost_ret (v := .tuple #[.agg #[.int .i64 n0, .int .i64 n1, .string (s.extract 8 s.size)], .int .i64 0]) (by simp [results, Try.results17, go_sem, *]) rfl ⟨by first | rfl | rw [Hn0.out, Hn1.out], by repeat (first | exact HB | refine Below.setCell ?_ (by simp) _)⟩
end Go.Proofs.Yteaihpiilimkcaa.Udp
