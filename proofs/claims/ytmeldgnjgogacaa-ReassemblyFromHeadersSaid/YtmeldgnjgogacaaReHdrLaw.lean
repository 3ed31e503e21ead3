/-
  The walk of the law ReassemblyFromHeaders, with the texts that it alone uses: the decoder's contracts joined, the plain facts on encodings, the state of the table in order.
-/
import Derived.Test.YtmeldgnjgogacaaIpDec4
import Derived.Test.YtmeldgnjgogacaaFrag0
import Derived.Test.YtmeldgnjgogacaaPlain
import Derived.Test.YtmeldgnjgogacaaReAny
import Derived.Deep.QuietTactic
import Derived.BigQuiet
namespace Go.Proofs.Ytmeldgnjgogacaa.Ip
set_option maxRecDepth 100000
open Go.RowKit Go.Proofs.Ytmeldgnjgogacaa.Wire

/-- the number in k bytes from a on -/
def nAt (s : ByteArray) (a k : Nat) : Int := num (bytesAt s a k)
def dfOf (s : ByteArray) : Bool := bits .and .i64 (nAt s 13 1) 1 != 0
def mfOf (s : ByteArray) : Bool := bits .and .i64 (nAt s 13 1) 2 != 0
/-- the first 20 bytes are the header of a valid datagram -/
def dV (s : ByteArray) : Prop := 20 ≤ s.size ∧ nAt s 0 1 = 4 ∧ VLen (nAt s 1 4) (nAt s 5 4) (nAt s 9 1) (nAt s 10 1) (nAt s 11 2) (dfOf s) (mfOf s) (8 * nAt s 14 2) (nAt s 16 2) ∧ hdr (nAt s 1 4) (nAt s 5 4) (nAt s 9 1) (nAt s 10 1) (nAt s 11 2) (dfOf s) (mfOf s) (8 * nAt s 14 2) (nAt s 16 2) = s.data.toList.take 20
theorem nAt_bd (s : ByteArray) (a k : Nat) : 0 ≤ nAt s a k ∧ nAt s a k < 256 ^ k := by
  have h := num_bd (bytesAt s a k)
  have hl := bytesAt_len_le s a k
  have hp : (256 : Int) ^ (bytesAt s a k).length ≤ 256 ^ k := by
    have := Nat.pow_le_pow_right (n := 256) (by omega) hl
    have e : ∀ n : Nat, (256 : Int) ^ n = ((256 ^ n : Nat) : Int) := fun n => by rw [Int.natCast_pow]; rfl
    rw [e, e]; exact Int.ofNat_le.2 this
  unfold nAt; omega
theorem take20 (s : ByteArray) : (s.extract 0 20).toList = s.data.toList.take 20 := by
  rw [ByteArray.toList_eq]; simp [ByteArray.data_extract, Array.toList_extract]
theorem dheader_true (s : ByteArray) (hs : s.size ≤ 9223372036854775807) (h : dV s) : ∀ (B : Nat) (w : World), w.heap[B]? = some (.cells #[.string s, .int .i64 0, .bool false, .int .i64 0, .int .i64 0, .int .i64 0, .int .i64 0, .int .i64 0, .bool false, .bool false, .int .i64 0, .string ⟨#[]⟩, .int .i64 0] 99) → Calls Try.prog 49 #[.pointer (some ⟨B, 0, none⟩)] w fun e w' => e = .returned (.bool true) ∧ w'.heap[B]? = some (.cells #[.string s, .int .i64 20, .bool false, .int .i64 (nAt s 1 4), .int .i64 (nAt s 5 4), .int .i64 (nAt s 9 1), .int .i64 (nAt s 10 1), .int .i64 (nAt s 11 2), .bool (dfOf s), .bool (mfOf s), .int .i64 (8 * nAt s 14 2), .string ⟨#[]⟩, .int .i64 (nAt s 16 2)] 99) ∧ w.grownBy w' (some B) := by
  intro B w hB
  obtain ⟨h1, h2, h3, h4⟩ := h
  have b7 := nAt_bd s 14 2
  have b8 := nAt_bd s 16 2
  refine dheader_long B s w (nAt s 0 1) (nAt s 1 4) (nAt s 5 4) (nAt s 9 1) (nAt s 10 1) (nAt s 11 2) (nAt s 13 1) (nAt s 14 2) (nAt s 16 2) (nAt s 18 2) (dfOf s) (mfOf s) true (hdr (nAt s 1 4) (nAt s 5 4) (nAt s 9 1) (nAt s 10 1) (nAt s 11 2) (dfOf s) (mfOf s) (8 * nAt s 14 2) (nAt s 16 2)) hB h1 hs (Lib.hid rfl) (Lib.hid rfl) (Lib.hid rfl) (Lib.hid rfl) (Lib.hid rfl) (Lib.hid rfl) (Lib.hid rfl) (Lib.hid rfl) (Lib.hid rfl) (Lib.hid rfl) (by simp [h2]) rfl rfl (by omega) (by omega) (Lib.hid fun w => header_ok _ _ _ _ _ _ _ _ ⟨#[]⟩ _ w b8.1 h3) ?_
  rw [take20, h4]; simp
theorem dheader_false (s : ByteArray) (hs : s.size ≤ 9223372036854775807) (h : ¬ dV s) : ∀ (B : Nat) (w : World), w.heap[B]? = some (.cells #[.string s, .int .i64 0, .bool false, .int .i64 0, .int .i64 0, .int .i64 0, .int .i64 0, .int .i64 0, .bool false, .bool false, .int .i64 0, .string ⟨#[]⟩, .int .i64 0] 99) → Calls Try.prog 49 #[.pointer (some ⟨B, 0, none⟩)] w fun e w' => e = .returned (.bool false) ∧ w.grownBy w' (some B) := by
  intro B w hB
  rcases Nat.lt_or_ge s.size 1 with c | c1
  · exact dheader_empty B s w hB (by omega)
  by_cases hv : nAt s 0 1 = 4
  · rcases Nat.lt_or_ge s.size 20 with c | c20
    · exact dheader_short B s w hB c1 c hs (Lib.hid hv)
    · have b7 := nAt_bd s 14 2
      have b8 := nAt_bd s 16 2
      by_cases h3 : VLen (nAt s 1 4) (nAt s 5 4) (nAt s 9 1) (nAt s 10 1) (nAt s 11 2) (dfOf s) (mfOf s) (8 * nAt s 14 2) (nAt s 16 2)
      · refine (dheader_long B s w (nAt s 0 1) (nAt s 1 4) (nAt s 5 4) (nAt s 9 1) (nAt s 10 1) (nAt s 11 2) (nAt s 13 1) (nAt s 14 2) (nAt s 16 2) (nAt s 18 2) (dfOf s) (mfOf s) false (hdr (nAt s 1 4) (nAt s 5 4) (nAt s 9 1) (nAt s 10 1) (nAt s 11 2) (dfOf s) (mfOf s) (8 * nAt s 14 2) (nAt s 16 2)) hB c20 hs (Lib.hid rfl) (Lib.hid rfl) (Lib.hid rfl) (Lib.hid rfl) (Lib.hid rfl) (Lib.hid rfl) (Lib.hid rfl) (Lib.hid rfl) (Lib.hid rfl) (Lib.hid rfl) (by simp [hv]) rfl rfl (by omega) (by omega) (Lib.hid fun w => header_ok _ _ _ _ _ _ _ _ ⟨#[]⟩ _ w b8.1 h3) ?_).mono fun _ _ ⟨a, _, b⟩ => ⟨a, b⟩
        rw [take20]
        simp only [beq_eq_false_iff_ne]
        exact fun he => h ⟨c20, hv, h3, he⟩
      · refine (dheader_long B s w (nAt s 0 1) (nAt s 1 4) (nAt s 5 4) (nAt s 9 1) (nAt s 10 1) (nAt s 11 2) (nAt s 13 1) (nAt s 14 2) (nAt s 16 2) (nAt s 18 2) (dfOf s) (mfOf s) false [] hB c20 hs (Lib.hid rfl) (Lib.hid rfl) (Lib.hid rfl) (Lib.hid rfl) (Lib.hid rfl) (Lib.hid rfl) (Lib.hid rfl) (Lib.hid rfl) (Lib.hid rfl) (Lib.hid rfl) (by simp [hv]) rfl rfl (by omega) (by omega) (Lib.hid fun w => header_no _ _ _ _ _ _ _ _ ⟨#[]⟩ _ w b8.1 (by omega) h3) ?_).mono fun _ _ ⟨a, _, b⟩ => ⟨a, b⟩
        rw [take20]
        simp only [beq_eq_false_iff_ne]
        intro he
        have := congrArg List.length he
        have e2 : s.data.toList.length = s.size := rfl
        rw [List.length_take, e2] at this
        simp at this; omega
  · exact dheader_ver B s w (nAt s 0 1) hB c1 hs (Lib.hid rfl) (by simpa using hv)

/-- what DecodeHeader accepts, what Decode accepts -/
def dhOk (s : ByteArray) : Prop := dV s ∧ ((s.size - 20 : Nat) : Int) ≤ nAt s 16 2
def dcOk (s : ByteArray) : Prop := dV s ∧ ((s.size - 20 : Nat) : Int) = nAt s 16 2
def pkOf (s : ByteArray) : Value := .agg #[.int .i64 (nAt s 1 4), .int .i64 (nAt s 5 4), .int .i64 (nAt s 9 1), .int .i64 (nAt s 10 1), .int .i64 (nAt s 11 2), .bool (dfOf s), .bool (mfOf s), .int .i64 (8 * nAt s 14 2), .string (s.extract 20 s.size)]
def pk0 : Value := .agg #[.int .i64 0, .int .i64 0, .int .i64 0, .int .i64 0, .int .i64 0, .bool false, .bool false, .int .i64 0, .string ⟨#[]⟩]
theorem DecodeHeader_ok (s : ByteArray) (w : World) (hs : s.size ≤ 9223372036854775807) (h : dhOk s) :
    Calls Try.prog 26 #[.string s] w fun e w' => e = .returned (.tuple #[pkOf s, .int .i64 0]) ∧ Below w.heap.size w w' :=
  DecodeHeader_good s w _ _ _ _ _ (nAt s 14 2) _ _ _ h.1.1 hs (by have := h.2; simp; omega) (Lib.hid (dheader_true s hs h.1))
theorem DecodeHeader_no (s : ByteArray) (w : World) (hs : s.size ≤ 9223372036854775807) (h : ¬ dhOk s) :
    Calls Try.prog 26 #[.string s] w fun e w' => e = .returned (.tuple #[pk0, .int .i64 60]) ∧ Below w.heap.size w w' := by
  by_cases hd : dV s
  · have hl : ¬ ((s.size - 20 : Nat) : Int) ≤ nAt s 16 2 := fun q => h ⟨hd, q⟩
    exact DecodeHeader_long s w _ _ _ _ _ (nAt s 14 2) _ _ _ hd.1 hs (by simp; omega) (Lib.hid (dheader_true s hs hd))
  · exact DecodeHeader_bad s w (Lib.hid (dheader_false s hs hd))
end Go.Proofs.Ytmeldgnjgogacaa.Ip

namespace Go.Proofs.Ytmeldgnjgogacaa.Ip
set_option maxRecDepth 100000
open Go.RowKit Go.Proofs.Ytmeldgnjgogacaa.Wire

/-- a valid datagram -/
def Pk.ok (p : Pk) : Prop := VLen p.f p.t p.pr p.ttl p.id p.df p.mf p.off p.s.size
/-- its header, and its encoding -/
def hd (p : Pk) (n : Int) : List UInt8 := hdr p.f p.t p.pr p.ttl p.id p.df p.mf p.off n
def encP (p : Pk) : List UInt8 := hd p p.s.size ++ p.s.data.toList
theorem encP_length (p : Pk) : (encP p).length = 20 + p.s.size := by
  unfold encP hd
  rw [List.length_append, hdr_length]; rfl
theorem midL (x y z : List UInt8) (a k : Nat) (hx : x.length = a) (hy : y.length = k) : ((x ++ (y ++ z)).drop a).take k = y := by
  subst hx; subst hy; simp
theorem mid_num (L x z : List UInt8) (a k : Nat) (n : Int) (h : L = x ++ (be k n ++ z)) (hx : x.length = a) (h0 : 0 ≤ n) (h1 : n < 256 ^ k) : nAt ⟨L.toArray⟩ a k = n := by
  show num ((L.drop a).take k) = n
  rw [h, midL x (be k n) z a k hx (be_length k n), num_be k n h0 h1]
theorem dfOf_eq (s : ByteArray) (df mf : Bool) (h : nAt s 13 1 = flagsOf df mf) : dfOf s = df ∧ mfOf s = mf := by
  unfold dfOf mfOf
  rw [h]
  cases df <;> cases mf <;> decide
/-- the fields that stand in any string which begins with the header -/
theorem fields (p : Pk) (n : Int) (z : List UInt8) (h : VLen p.f p.t p.pr p.ttl p.id p.df p.mf p.off n) (h0 : 0 ≤ n) :
    nAt ⟨(hd p n ++ z).toArray⟩ 0 1 = 4 ∧ nAt ⟨(hd p n ++ z).toArray⟩ 1 4 = p.f ∧ nAt ⟨(hd p n ++ z).toArray⟩ 5 4 = p.t ∧ nAt ⟨(hd p n ++ z).toArray⟩ 9 1 = p.pr ∧ nAt ⟨(hd p n ++ z).toArray⟩ 10 1 = p.ttl ∧ nAt ⟨(hd p n ++ z).toArray⟩ 11 2 = p.id ∧
      dfOf ⟨(hd p n ++ z).toArray⟩ = p.df ∧ mfOf ⟨(hd p n ++ z).toArray⟩ = p.mf ∧ 8 * nAt ⟨(hd p n ++ z).toArray⟩ 14 2 = p.off ∧ nAt ⟨(hd p n ++ z).toArray⟩ 16 2 = n := by
  obtain ⟨f, t, pr, ttl, id, df, mf, off, s⟩ := p
  obtain ⟨⟨a1, a2, a3, a4⟩, ⟨a5, a6, a7, a8, a9, a10⟩, ⟨a11, a12, a13, a14⟩, -, -, -⟩ := h
  have hfl := flagsOf_bd df mf
  dsimp only at *
  generalize hc : be 2 (csum ⟨(front f t pr ttl id df mf off n ++ [0, 0]).toArray⟩) = c
  have hL : hd ⟨f, t, pr, ttl, id, df, mf, off, s⟩ n ++ z = be 1 4 ++ (be 4 f ++ (be 4 t ++ (be 1 pr ++ (be 1 ttl ++ (be 2 id ++ (be 1 (flagsOf df mf) ++ (be 2 (off / 8) ++ (be 2 n ++ (c ++ z))))))))) := by
    unfold hd hdr; dsimp only; rw [hc]; simp [front, parts]
  rw [hL]
  have hdm := dfOf_eq ⟨(be 1 4 ++ (be 4 f ++ (be 4 t ++ (be 1 pr ++ (be 1 ttl ++ (be 2 id ++ (be 1 (flagsOf df mf) ++ (be 2 (off / 8) ++ (be 2 n ++ (c ++ z)))))))))).toArray⟩ df mf
    (mid_num _ (be 1 4 ++ be 4 f ++ be 4 t ++ be 1 pr ++ be 1 ttl ++ be 2 id) _ 13 1 (flagsOf df mf) (by simp only [List.append_assoc]; rfl) (by simp [be_length]) hfl.1 (by omega))
  refine ⟨mid_num _ [] _ 0 1 4 rfl rfl (by omega) (by omega), mid_num _ (be 1 4) _ 1 4 f rfl (by simp [be_length]) (by omega) (by omega), mid_num _ (be 1 4 ++ be 4 f) _ 5 4 t (by simp only [List.append_assoc]; rfl) (by simp [be_length]) (by omega) (by omega),
    mid_num _ (be 1 4 ++ be 4 f ++ be 4 t) _ 9 1 pr (by simp only [List.append_assoc]; rfl) (by simp [be_length]) (by omega) (by omega), mid_num _ (be 1 4 ++ be 4 f ++ be 4 t ++ be 1 pr) _ 10 1 ttl (by simp only [List.append_assoc]; rfl) (by simp [be_length]) (by omega) (by omega),
    mid_num _ (be 1 4 ++ be 4 f ++ be 4 t ++ be 1 pr ++ be 1 ttl) _ 11 2 id (by simp only [List.append_assoc]; rfl) (by simp [be_length]) (by omega) (by omega), hdm.1, hdm.2, ?_, ?_⟩
  · rw [mid_num _ (be 1 4 ++ be 4 f ++ be 4 t ++ be 1 pr ++ be 1 ttl ++ be 2 id ++ be 1 (flagsOf df mf)) _ 14 2 (off / 8) (by simp only [List.append_assoc]; rfl) (by simp [be_length]) (by omega) (by omega)]
    omega
  · exact mid_num _ (be 1 4 ++ be 4 f ++ be 4 t ++ be 1 pr ++ be 1 ttl ++ be 2 id ++ be 1 (flagsOf df mf) ++ be 2 (off / 8)) _ 16 2 n (by simp only [List.append_assoc]; rfl) (by simp [be_length]) (by omega) (by omega)
theorem hd_length (p : Pk) (n : Int) : (hd p n).length = 20 := hdr_length _ _ _ _ _ _ _ _ _
theorem dV_of (p : Pk) (n : Int) (z : List UInt8) (h : VLen p.f p.t p.pr p.ttl p.id p.df p.mf p.off n) (h0 : 0 ≤ n) : dV ⟨(hd p n ++ z).toArray⟩ := by
  obtain ⟨e0, e1, e2, e3, e4, e5, e6, e7, e8, e9⟩ := fields p n z h h0
  refine ⟨?_, e0, ?_, ?_⟩
  · rw [sz, List.length_append, hd_length]; omega
  · rw [e1, e2, e3, e4, e5, e6, e7, e8, e9]; exact h
  · rw [e1, e2, e3, e4, e5, e6, e7, e8, e9]
    show hd p n = (hd p n ++ z).take 20
    rw [List.take_append_of_le_length (by rw [hd_length]; omega), List.take_of_length_le (by rw [hd_length]; omega)]
theorem extract20 (l z : List UInt8) (h : l.length = 20) : (⟨(l ++ z).toArray⟩ : ByteArray).extract 20 (⟨(l ++ z).toArray⟩ : ByteArray).size = ⟨z.toArray⟩ := by
  apply ByteArray.ext
  apply Array.ext'
  rw [sz, ByteArray.data_extract]
  simp [h]
theorem pkOf_of (p : Pk) (n : Int) (z : List UInt8) (h : VLen p.f p.t p.pr p.ttl p.id p.df p.mf p.off n) (h0 : 0 ≤ n) : pkOf ⟨(hd p n ++ z).toArray⟩ = { p with s := ⟨z.toArray⟩ : Pk }.val := by
  obtain ⟨e0, e1, e2, e3, e4, e5, e6, e7, e8, e9⟩ := fields p n z h h0
  unfold pkOf Pk.val
  rw [e1, e2, e3, e4, e5, e6, e7, e8, extract20 _ _ (hd_length p n)]
/-- Decode inverts Encode -/
theorem enc_dcOk (p : Pk) (h : p.ok) : dcOk ⟨(encP p).toArray⟩ := by
  refine ⟨dV_of p p.s.size p.s.data.toList h (by omega), ?_⟩
  unfold encP
  rw [(fields p p.s.size p.s.data.toList h (by omega)).2.2.2.2.2.2.2.2.2, sz, List.length_append, hd_length]
  have : p.s.data.toList.length = p.s.size := rfl
  omega
theorem enc_pkOf (p : Pk) (h : p.ok) : pkOf ⟨(encP p).toArray⟩ = p.val := by
  unfold encP
  rw [pkOf_of p p.s.size p.s.data.toList h (by omega)]
/-- a truncated encoding -/
theorem cut_enc (p : Pk) (n : Nat) (h : 20 ≤ n) : (encP p).take n = hd p p.s.size ++ p.s.data.toList.take (n - 20) := by
  unfold encP
  rw [List.take_append, hd_length, List.take_of_length_le (by rw [hd_length]; exact h)]
theorem cut_dhOk (p : Pk) (hp : p.ok) (n : Nat) (h : 20 ≤ n) : dhOk ⟨((encP p).take n).toArray⟩ := by
  rw [cut_enc p n h]
  refine ⟨dV_of p p.s.size _ hp (by omega), ?_⟩
  rw [(fields p p.s.size (p.s.data.toList.take (n - 20)) hp (by omega)).2.2.2.2.2.2.2.2.2, sz, List.length_append, hd_length, List.length_take]
  have : p.s.data.toList.length = p.s.size := rfl
  omega
theorem cut_pkOf (p : Pk) (hp : p.ok) (n : Nat) (h : 20 ≤ n) : pkOf ⟨((encP p).take n).toArray⟩ = { p with s := ⟨(p.s.data.toList.take (n - 20)).toArray⟩ : Pk }.val := by
  rw [cut_enc p n h, pkOf_of p p.s.size _ hp (by omega)]
theorem short_no (s : ByteArray) (h : s.size < 20) : ¬ dV s := fun q => by have := q.1; omega
/-- distinct datagrams have distinct encodings -/
theorem val_inj {p q : Pk} (h : p.val = q.val) : p = q := by
  obtain ⟨f, t, pr, ttl, id, df, mf, off, s⟩ := p
  obtain ⟨f', t', pr', ttl', id', df', mf', off', s'⟩ := q
  simp only [Pk.val, Value.agg.injEq, Array.mk.injEq, List.cons.injEq, Value.int.injEq, Value.bool.injEq, Value.string.injEq, true_and, and_true] at h
  obtain ⟨rfl, rfl, rfl, rfl, rfl, rfl, rfl, rfl, rfl⟩ := h
  rfl
theorem enc_injP (p q : Pk) (hp : p.ok) (hq : q.ok) (h : encP p = encP q) : p = q :=
  val_inj (by rw [← enc_pkOf p hp, h, enc_pkOf q hq])
/-- the sum of the words of a header -/
theorem dV_sum (s : ByteArray) (h : dV s) : ws (s.data.toList.take 20) % 65535 = 0 := by
  obtain ⟨h20, -, -, he⟩ := h
  rw [← he]
  unfold hdr
  generalize hF : front (nAt s 1 4) (nAt s 5 4) (nAt s 9 1) (nAt s 10 1) (nAt s 11 2) (dfOf s) (mfOf s) (8 * nAt s 14 2) (nAt s 16 2) = F
  have hl : F.length = 18 := by rw [← hF]; exact front_length _ _ _ _ _ _ _ _ _
  have hm := csum_mod (F ++ [0, 0])
  have hb := csum_bd ⟨(F ++ [0, 0]).toArray⟩
  rw [ws_append _ _ (by omega)] at hm
  rw [ws_append _ _ (by omega), ws_be2 _ hb.1 (by omega)]
  have : ws [0, 0] = 0 := by decide
  omega
/-- one byte of the header changed: refused -/
theorem flip_no (R : List UInt8) (h : dV ⟨R.toArray⟩) (k : Nat) (hk : k < 20) (hR : 20 ≤ R.length) (v : UInt8) (hv : v ≠ R[k]'(by omega)) : ¬ dV ⟨(R.set k v).toArray⟩ := by
  intro h'
  have h1 := dV_sum _ h
  have h2 := dV_sum _ h'
  have e1 : (⟨R.toArray⟩ : ByteArray).data.toList.take 20 = R.take 20 := by simp
  have e2 : (⟨(R.set k v).toArray⟩ : ByteArray).data.toList.take 20 = (R.take 20).set k v := by simp [List.take_set]
  rw [e1] at h1
  rw [e2, ws_set _ _ _ (by rw [List.length_take]; omega)] at h2
  rw [List.getElem_take] at h2
  have hb1 := u8_bd v
  have hb2 := u8_bd (R[k]'(by omega))
  have hne : (v.toNat : Int) ≠ ((R[k]'(by omega)).toNat : Int) := fun q => hv (UInt8.toNat_inj.1 (Int.ofNat_inj.1 q))
  split at h2 <;> omega
end Go.Proofs.Ytmeldgnjgogacaa.Ip

namespace Go.Proofs.Ytmeldgnjgogacaa.Re
set_option maxRecDepth 100000
open Go.RowKit Go.Proofs.Ytmeldgnjgogacaa.Wire
open Go.Proofs.Ytmeldgnjgogacaa.Ip (Pk vlenB VLen pieceAt count frags count_lt frags_succ frags_length)

theorem nodup_sub {α : Type} [DecidableEq α] : ∀ (l m : List α), l.Nodup → (∀ x ∈ l, x ∈ m) → l.length ≤ m.length
  | [], m, _, _ => Nat.zero_le _
  | x :: l, m, hn, hs => by
    obtain ⟨h1, h2⟩ := List.nodup_cons.1 hn
    have hx := hs x (by simp)
    have ih := nodup_sub l (m.erase x) h2 (fun y hy => (List.mem_erase_of_ne (fun e => h1 (by rw [← e]; exact hy))).2 (hs y (by simp [hy])))
    have := List.length_erase_of_mem hx
    have := List.length_pos_of_mem hx
    simp only [List.length_cons]; omega
/-- Put leaves other datagrams alone -/
theorem putA_others {A : List (Ky × Hf)} (hn : NK A) (now : Int) (p : Pk) (hv : vldB p = true) : ∃ A' q ok err, putA A now p = (A', q, ok, err) ∧ NK A' ∧ (∀ k', k' ≠ keyOf p → look A' k' = look A k') ∧ ∀ x ∈ A', x ∈ A ∨ x.1 = keyOf p := by
  by_cases hf : p.mf = false ∧ p.off = 0
  · exact ⟨A, p, true, 0, by unfold putA; rw [if_neg (by rw [hv]; simp), if_pos hf], hn, fun _ _ => rfl, fun x hx => .inl hx⟩
  · have hf' : p.mf = true ∨ p.off ≠ 0 := by
      cases hm : p.mf with
      | true => exact .inl rfl
      | false => exact .inr fun h0 => hf ⟨hm, h0⟩
    obtain ⟨A1, i, e1, n1, h1, l1, z1, m1, -⟩ := putA_at hn now p hv hf'
    rw [e1]
    unfold putH
    have hset : ∀ (H : Hf), NK (A1.set i (keyOf p, H)) ∧ (∀ k', k' ≠ keyOf p → look (A1.set i (keyOf p, H)) k' = look A k') ∧ ∀ x ∈ A1.set i (keyOf p, H), x ∈ A ∨ x.1 = keyOf p := fun H => by
      refine ⟨nk_set n1 h1, fun k' h' => by rw [look_set h1 n1, if_neg h', l1 k' h'], fun x hx => ?_⟩
      rcases List.mem_or_eq_of_mem_set hx with q | q
      · exact m1 x q
      · exact .inr (by rw [q])
    split
    · exact ⟨_, _, _, _, rfl, n1, l1, m1⟩
    · split
      · exact ⟨_, _, _, _, rfl, hset _⟩
      · split
        · exact ⟨_, _, _, _, rfl, nk_erase n1 i, fun k' h' => by rw [look_erase h1 n1, if_neg h', l1 k' h'], fun x hx => m1 x ((List.eraseIdx_sublist _ _).subset hx)⟩
        · exact ⟨_, _, _, _, rfl, hset _⟩
def otherK (w : Nat) : Ky := ⟨1 + (w : Int) % 3, 9, 17, (w : Int) % 12⟩
def keys12 : List Ky := keyOf (baseP ⟨#[]⟩) :: (List.range 6).map otherK
theorem key_base (s : ByteArray) : keyOf (baseP s) = ⟨1, 2, 6, 77⟩ := rfl
theorem other_ne (w : Nat) (s : ByteArray) : otherK w ≠ keyOf (baseP s) := fun e => by
  have : (9 : Int) = 2 := congrArg Ky.t e
  omega
/-- the first j parts have come, fragments of others too -/
structure St12 (s : ByteArray) (n j : Nat) (A : List (Ky × Hf)) : Prop where
  nk : NK A
  keys : ∀ x ∈ A, x.1 ∈ keys12
  small : s.size ≤ n → look A (keyOf (baseP s)) = none
  good : ¬ s.size ≤ n → j < (partsL s n).length → ∀ now, Good (baseP s) n (fun i => decide (i < j)) ((look A (keyOf (baseP s))).getD (newF now))
theorem St12.length {s : ByteArray} {n j : Nat} {A : List (Ky × Hf)} (h : St12 s n j A) : A.length ≤ 7 := by
  have hn : (A.map (·.1)).Nodup := h.nk
  have := nodup_sub (A.map (·.1)) keys12 hn (fun k hk => by
    obtain ⟨x, hx, rfl⟩ := List.mem_map.1 hk
    exact h.keys x hx)
  simpa [keys12] using this
theorem st12_start (s : ByteArray) (n : Nat) (hn : 0 < n) : St12 s n 0 [] :=
  ⟨List.nodup_nil, fun x hx => by simp at hx, fun _ => rfl, fun hle _ now => by
    rw [look_nil]
    exact good_congr (C := fun _ => false) (good_new now) hn ((count_lt (baseP s) n 0 hn).2 (by show n * 0 < s.size; omega)) (fun i hi => decide_eq_false (by omega))⟩
theorem st12_other {s : ByteArray} {n j : Nat} {A : List (Ky × Hf)} (h : St12 s n j A) {p : Pk} (hv : vldB p = true) {w : Nat} (hw : w < 6) (hk : keyOf p = otherK w) : ∃ A' q ok err, putA A 0 p = (A', q, ok, err) ∧ St12 s n j A' := by
  obtain ⟨A', q, ok, err, e, n', l', m'⟩ := putA_others h.nk 0 p hv
  have hne : keyOf (baseP s) ≠ keyOf p := fun e => other_ne w s (by rw [← hk, e])
  refine ⟨A', q, ok, err, e, n', fun x hx => ?_, fun hle => by rw [l' _ hne]; exact h.small hle, fun hle hj now => by rw [l' _ hne]; exact h.good hle hj now⟩
  rcases m' x hx with r | r
  · exact h.keys x r
  · rw [r, hk]
    unfold keys12
    exact List.mem_cons_of_mem _ (List.mem_map.2 ⟨w, List.mem_range.2 hw, rfl⟩)
theorem st12_put {s : ByteArray} {n j : Nat} {A : List (Ky × Hf)} (h500 : s.size ≤ 500) (h8 : n % 8 = 0) (hn : 0 < n) (h : St12 s n j A) {P : Pk} (hP : (partsL s n)[j]? = some P) :
    ∃ A' q ok, putA A 0 P = (A', q, ok, 0) ∧ St12 s n (j + 1) A' ∧ (ok = true ↔ j + 1 = (partsL s n).length) ∧ (ok = true → q = baseP s) := by
  have hjl := (List.getElem?_eq_some_iff.1 hP).1
  by_cases hle : s.size ≤ n
  · have e1 : partsL s n = [baseP s] := by unfold partsL; rw [if_pos hle]
    rw [e1] at hP hjl
    have hj0 : j = 0 := by simpa using hjl
    subst hj0
    obtain rfl : baseP s = P := by simpa using hP
    refine ⟨A, baseP s, true, ?_, ⟨h.nk, h.keys, h.small, fun q => absurd hle q⟩, by simp [e1], fun _ => rfl⟩
    unfold putA
    rw [if_neg (by rw [base_valid s h500]; simp), if_pos ⟨rfl, rfl⟩]
  · obtain ⟨hj, rfl⟩ := partsL_at hle hP
    have hcut := base_cut h500 hn (by omega)
    have hcl : (partsL s n).length = count (baseP s) n := by unfold partsL; rw [if_neg hle, frags_length]
    rw [hcl]
    obtain ⟨A', n', l', z', m', hres⟩ := put_good hcut h.nk (now := 0) (h.good hle (by omega) 0) hj (piece_valid (base_valid s h500) rfl n j h8 hn ((count_lt (baseP s) n j hn).1 hj))
    have hkeys : ∀ x ∈ A', x.1 ∈ keys12 := fun x hx => (m' x hx).elim (h.keys x) (fun e => by rw [e]; exact List.mem_cons_self ..)
    rcases hres with ⟨hall, hput, hl⟩ | ⟨⟨i, hi, hci, hik⟩, hput, H, hl, hgH⟩
    · have hjm : j + 1 = count (baseP s) n := by
        rcases hall (count (baseP s) n - 1) (by omega) with q | q
        · have := of_decide_eq_true q; omega
        · omega
      exact ⟨A', _, true, hput, ⟨n', hkeys, fun q => absurd q hle, fun _ q => by omega⟩, by simp [hjm], fun _ => rfl⟩
    · have hci := of_decide_eq_false hci
      refine ⟨A', _, false, hput, ⟨n', hkeys, fun q => absurd q hle, fun _ q now => ?_⟩, by constructor <;> intro q; (cases q); omega, fun q => by cases q⟩
      rw [hl]
      refine good_congr hgH hn (by omega) (fun i hi => ?_)
      rw [Bool.eq_iff_iff]
      simp only [Bool.or_eq_true, decide_eq_true_eq]
      omega
theorem partOf_key (wh of lo : Nat) (mo : Bool) (od : Nat) : keyOf (partOf wh of lo mo od) = otherK wh := rfl
end Go.Proofs.Ytmeldgnjgogacaa.Re

namespace Go.Proofs.Ytmeldgnjgogacaa.Re
set_option maxRecDepth 100000
open Go.RowKit Go.Proofs.Ytmeldgnjgogacaa.Wire
open Go.Proofs.Ytmeldgnjgogacaa.Ip (Pk vlenB VLen)

theorem partsL_ok {s : ByteArray} {n k : Nat} {P : Pk} (h500 : s.size ≤ 500) (h8 : n % 8 = 0) (hn : 0 < n) (hP : (partsL s n)[k]? = some P) : vldB P = true ∧ P.f = 1 ∧ P.t = 2 ∧ P.id = 77 := by
  by_cases h : s.size ≤ n
  · unfold partsL at hP
    rw [if_pos h] at hP
    cases k with
    | zero => cases hP; exact ⟨base_valid s h500, rfl, rfl, rfl⟩
    | succ k => simp at hP
  · obtain ⟨hk, rfl⟩ := partsL_at h hP
    exact ⟨piece_valid (base_valid s h500) rfl n k h8 hn ((Ip.count_lt (baseP s) n k hn).1 hk), rfl, rfl, rfl⟩
theorem hdr_facts (P : Pk) (hv : vldB P = true) (h1 : P.f = 1) (h2 : P.t = 2) (h3 : P.id = 77) : ∃ U V : ByteArray, U.size = 20 + P.s.size ∧ U.extract 0 20 = V ∧ U.extract 20 (20 + P.s.size) = P.s ∧
    (∀ w : World, Calls Try.prog 25 #[.agg #[.int .i64 P.f, .int .i64 P.t, .int .i64 P.pr, .int .i64 P.ttl, .int .i64 P.id, .bool P.df, .bool P.mf, .int .i64 P.off, .string P.s]] w fun e w' => e = .returned (.tuple #[.string U, .int .i64 0]) ∧ Below w.heap.size w w') ∧
    (∀ w : World, Calls Try.prog 26 #[.string V] w fun e w' => e = .returned (.tuple #[.agg #[.int .i64 1, .int .i64 2, .int .i64 P.pr, .int .i64 P.ttl, .int .i64 77, .bool P.df, .bool P.mf, .int .i64 P.off, .string ⟨#[]⟩], .int .i64 0]) ∧ Below w.heap.size w w') := by
  have hok : P.ok := by
    unfold vldB Ip.vlenB at hv
    have := of_decide_eq_true hv
    exact this
  have hl := Ip.encP_length P
  have hsz : (⟨(Ip.encP P).toArray⟩ : ByteArray).size = 20 + P.s.size := by rw [← hl]; simp [ByteArray.size]
  have hp : P.s.size ≤ 4000 := by unfold Pk.ok VLen at hok; omega
  refine ⟨⟨(Ip.encP P).toArray⟩, ⟨((Ip.encP P).take 20).toArray⟩, hsz, ?_, ?_, fun w => Ip.Encode_ok _ _ _ _ _ _ _ _ _ w hok, fun w => ?_⟩
  · apply ByteArray.ext
    rw [ByteArray.data_extract]
    apply Array.ext'
    simp
  · rw [← hsz]
    exact Ip.extract20 _ _ (Ip.hd_length _ _)
  · have hs : (⟨((Ip.encP P).take 20).toArray⟩ : ByteArray).size ≤ 9223372036854775807 := by
      have : (⟨((Ip.encP P).take 20).toArray⟩ : ByteArray).size = ((Ip.encP P).take 20).length := by simp [ByteArray.size]
      rw [this, List.length_take]; omega
    have := Ip.DecodeHeader_ok _ w hs (Ip.cut_dhOk P hok 20 (by omega))
    rw [Ip.cut_pkOf P hok 20 (by omega)] at this
    have e : (⟨(P.s.data.toList.take (20 - 20)).toArray⟩ : ByteArray) = ⟨#[]⟩ := by simp
    rw [e] at this
    unfold Ip.Pk.val at this
    dsimp only at this
    rw [h1, h2, h3] at this
    exact this
/-- what holds ahead of a round: the table, the parts -/
structure L29 (w : World) (b : ByteArray) (n lo T g pc j : Nat) (A : List (Ky × Hf)) (K : Nat → Prop) (W : World) : Prop where
  st : St12 b n j A
  one : OneT w T A (fun q => q = g ∨ K q) W
  row : PRow W lo (some ⟨g, 0, none⟩) pc (partsL b n)
theorem L29.below {w W W' : World} {b : ByteArray} {n lo T g pc j : Nat} {A : List (Ky × Hf)} {K : Nat → Prop} (h : L29 w b n lo T g pc j A K W) (hb : Below W.heap.size W W') : L29 w b n lo T g pc j A K W' := ⟨h.st, h.one.below hb, h.row.keptK (fun q _ hl => hb.block q hl)⟩
theorem L29.put {w W : World} {b : ByteArray} {n lo T g pc j j' : Nat} {A A' : List (Ky × Hf)} {K : Nat → Prop} (h : L29 w b n lo T g pc j A K W) (p q : Pk) (ok : Bool) (err : Int) (he : putA A 0 p = (A', q, ok, err)) (hs : p.s.size ≤ 9223372036854775807) (hst : St12 b n j' A') :
    Calls Try.prog 16 #[.pointer (some ⟨T, 0, none⟩), .int .i64 0, .agg #[.int .i64 p.f, .int .i64 p.t, .int .i64 p.pr, .int .i64 p.ttl, .int .i64 p.id, .bool p.df, .bool p.mf, .int .i64 p.off, .string p.s]] W fun x w' => x = PutRes q ok err ∧ L29 w b n lo T g pc j' A' (fun _ => False) w' := by
  have hl := h.st.length
  have hg : g < W.heap.size := h.row.lt
  refine (h.one.put 0 p A' q ok err he hs (.inl (by omega)) (by omega) (by unfold In64; omega)).mono ?_
  rintro x w' ⟨hx, ho, -, hk⟩
  exact ⟨hx, hst, ho.more (fun q hq => .inl (by rcases hq with r | r; (exact ⟨.inl r, by rw [r]; exact hg⟩); exact r.elim)), h.row.kept (fun a e => by cases e; exact hk _ (.inl rfl) hg)⟩
set_option maxHeartbeats 16000000 in
theorem hdr_law (s : ByteArray) (e : Nat) (w : World) (hs : s.size ≤ 9223372036854775807) (he : e < 256) :
    Calls Try.prog 9 #[.string s, .int .u8 (e : Int)] w fun x w' => x = .returned (.bool true) ∧ Below w.heap.size w w' := by
  go_enter Try.func9, Try.ntmps9
  go_wp2_with fail
  refine (examples_any _).mono ?_
  rintro x w1 ⟨rfl, hb1⟩
  have HB1 := Lib.hid hb1; clear hb1
  go_upto_region 4 with fail
  go_cut [6] (fun s6 wx => ∃ b : ByteArray, s6 = .string b ∧ b.size ≤ 500 ∧ wx = w1)
  case first =>
    go_wp2_with fail
    all_goals
      go_meet
      first | exact ⟨_, rfl, by rw [ByteArray.size_extract]; omega, rfl⟩ | exact ⟨_, rfl, by omega, rfl⟩
  case rest =>
    obtain ⟨b, rfl, hb5, rfl⟩ := hcut
    obtain ⟨w1, rfl⟩ : ∃ wo : World, wo = wc := ⟨_, rfl⟩
    have HPA := Lib.hid (parts_any b e w1 hb5 he)
    go_wp2_with fail
    refine HPA.out.mono ?_
    rintro x w2 ⟨⟨B, pc, rfl, hrow⟩, hb2⟩
    have hpos := partsL_pos b (cutN e) (by unfold cutN; omega)
    obtain ⟨m, hm⟩ : ∃ m, (partsL b (cutN e)).length = m := ⟨_, rfl⟩
    rw [hm] at hpos ⊢
    have HM := Lib.hid hm; clear hm
    have HROW := Lib.hid hrow; have HB2 := Lib.hid (below_call HB1.out hb2)
    clear hrow hb2 HPA
    go_wp2_with fail
    refine (new_tt _).mono ?_
    intro x w3 hx
    obtain ⟨T, rfl, ho, hb3⟩ := OneT.ofNew HB2.out hx
    have HO3 := Lib.hid ho; have HROW3 := Lib.hid (HROW.out.keptK (fun q _ hl => hb3.block q hl))
    clear hx ho hb3
    obtain ⟨g, hBg, hglo⟩ := HROW.out.addr (by rw [HM.out]; omega)
    subst hBg
    have hglt := HROW.out.lt
    have HL0 : Hid (L29 w b (cutN e) w1.heap.size T g pc 0 [] (fun _ => False) w3) := Lib.hid ⟨st12_start b (cutN e) (by unfold cutN; omega), HO3.out.more (fun q hq => .inl (by rcases hq with r | r; (show q < w2.heap.size; rw [r]; exact hglt); exact r.elim)), HROW3.out⟩
    clear HROW HROW3 HO3 HB2 hglo hglt
    go_wp2_with fail
    go_loopw [9, 10] (fun gs i wr => ∃ (j : Nat) (A1 : List (Ky × Hf)) (u : ByteArray), j ≤ m ∧ gs = .string u ∧ (j = m → u = b) ∧ i = .int .i64 (j : Int) ∧ L29 w b (cutN e) w1.heap.size T g pc j A1 (fun _ => False) wr) (fun _ i _ => m - (Go.RowKit.intOf i).toNat)
    case atStart => exact ⟨0, [], _, Nat.zero_le _, rfl, fun q => absurd q (by omega), rfl, HL0.out⟩
    case round =>
      clear HL0
      obtain ⟨j, A1, u, hj, rfl, hu, rfl, hL⟩ := hrel
      have HL := Lib.hid hL; clear hL
      have j0 : (0 : Int) ≤ (j : Int) := by omega
      by_cases hjm : j < m
      · have d1 : decide ((j : Int) < (m : Int)) = true := decide_eq_true (by omega)
        have j1 : (j : Int) < (m : Int) := by omega
        obtain ⟨wo, rfl⟩ : ∃ wo : World, wo = wr := ⟨_, rfl⟩
        obtain ⟨P, hP⟩ : ∃ P, (partsL b (cutN e))[j]? = some P := ⟨_, List.getElem?_eq_getElem (by rw [HM.out]; omega)⟩
        obtain ⟨A3, q, ok, hput, hst, hok, hq⟩ := st12_put hb5 (by unfold cutN; omega) (by unfold cutN; omega) HL.out.st hP
        have hp5 := stA_valid hb5 hP
        obtain ⟨hv, v1, v2, v3⟩ := partsL_ok hb5 (by unfold cutN; omega) (by unfold cutN; omega) hP
        obtain ⟨U, V, hU, hUV, hUP, hEn, hDe⟩ := hdr_facts P hv v1 v2 v3
        have HEN := Lib.hid hEn; have HDE := Lib.hid hDe; clear hEn hDe hv
        rw [HM.out] at hok
        have HOK := Lib.hid hok; have HQ := Lib.hid hq; clear hok hq
        have HPUT0 := Lib.hid hput; have HST := Lib.hid hst; clear hput hst
        have HV := Lib.hid (And.intro v1 (And.intro v2 v3)); clear v1 v2 v3
        obtain ⟨p0, p1, p2, p3, p4, p5, p6, p7, p8⟩ := HL.out.row.cells hP
        have HP := Lib.hid hP
        clear hu hjm hP
        go_wp2_with fail
        refine (HEN.out _).mono ?_
        rintro x w4 ⟨rfl, hb4⟩
        have HL4 := Lib.hid (HL.out.below hb4)
        clear hb4 HL HEN p0 p1 p2 p3 p4 p5 p6 p7 p8
        have u1 : decide ((20 : Int) + (P.s.size : Int) < 20) = false := decide_eq_false (by omega)
        have u2 : (U.size : Int) = 20 + (P.s.size : Int) := by omega
        have u3 : ((20 + P.s.size : Nat) : Int) = 20 + (P.s.size : Int) := by omega
        have u4 : ¬ (U.size < 20) := by omega
        go_wp2_with fail
        refine (HDE.out _).mono ?_
        rintro x w5 ⟨rfl, hb5'⟩
        have HL5 := Lib.hid (HL4.out.below hb5')
        clear hb5' HL4 HDE
        have HN6 := Lib.hid (alloc_new w5 (.cells #[.int .i64 1, .int .i64 2, .int .i64 P.pr, .int .i64 P.ttl, .int .i64 77, .bool P.df, .bool P.mf, .int .i64 P.off, .string ⟨#[]⟩] 30))
        have HL6 : Hid (L29 w b (cutN e) w1.heap.size T g pc j A1 (fun q => q = w5.heap.size) (w5.alloc (.cells #[.int .i64 1, .int .i64 2, .int .i64 P.pr, .int .i64 P.ttl, .int .i64 77, .bool P.df, .bool P.mf, .int .i64 P.off, .string ⟨#[]⟩] 30))) := Lib.hid (L29.below ⟨HL5.out.st, HL5.out.one.more (fun q hq => by rcases hq with r | r; (exact .inl (.inl r)); exact .inr (by omega)), HL5.out.row⟩ ((Below.refl _ _).alloc (Nat.le_refl _) _))
        have hzr := HL5.out.one.bel.size
        have hgr : g < w5.heap.size := HL5.out.row.lt
        go_upto_region 15 with fail
        obtain ⟨Bd, hBd⟩ : ∃ Bd, w5.heap.size = Bd := ⟨_, rfl⟩
        rw [hBd] at HN6 HL6 hzr hgr ⊢
        clear hBd HL5
        generalize w5.alloc (.cells #[.int .i64 1, .int .i64 2, .int .i64 P.pr, .int .i64 P.ttl, .int .i64 77, .bool P.df, .bool P.mf, .int .i64 P.off, .string ⟨#[]⟩] 30) = w6 at *
        obtain ⟨p0, p1, p2, p3, p4, p5, p6, p7, p8⟩ := HL6.out.row.cells HP.out
        have qN60 := (cell_of_block (k := 0) HN6.out rfl).1; have zN60 := (cell_of_block (k := 0) HN6.out rfl).2; have qN61 := (cell_of_block (k := 1) HN6.out rfl).1; have zN61 := (cell_of_block (k := 1) HN6.out rfl).2; have qN62 := (cell_of_block (k := 2) HN6.out rfl).1; have zN62 := (cell_of_block (k := 2) HN6.out rfl).2; have qN63 := (cell_of_block (k := 3) HN6.out rfl).1; have zN63 := (cell_of_block (k := 3) HN6.out rfl).2; have qN64 := (cell_of_block (k := 4) HN6.out rfl).1; have zN64 := (cell_of_block (k := 4) HN6.out rfl).2; have qN65 := (cell_of_block (k := 5) HN6.out rfl).1; have zN65 := (cell_of_block (k := 5) HN6.out rfl).2; have qN66 := (cell_of_block (k := 6) HN6.out rfl).1; have zN66 := (cell_of_block (k := 6) HN6.out rfl).2; have qN67 := (cell_of_block (k := 7) HN6.out rfl).1; have zN67 := (cell_of_block (k := 7) HN6.out rfl).2; have qN68 := (cell_of_block (k := 8) HN6.out rfl).1; have zN68 := (cell_of_block (k := 8) HN6.out rfl).2; have lt_N6 := blk_lt HN6.out
        go_cut [98] (fun s wx => s = .bool false ∧ wx.heap[Bd]? = some (.cells #[.int .i64 1, .int .i64 2, .int .i64 P.pr, .int .i64 P.ttl, .int .i64 77, .bool P.df, .bool P.mf, .int .i64 P.off, .string ⟨#[]⟩] 30 (0, 0)) ∧ L29 w b (cutN e) w1.heap.size T g pc j A1 (fun q => q = Bd) wx)
        case first =>
          go_quiet (fail)
          go_wp2_with fail
          go_meet
          exact ⟨rfl, HN6.out, HL6.out.below (below_drewN (Below.refl _ _) _)⟩
        case rest =>
        obtain ⟨rfl, hn6, hl6⟩ := hcut
        clear p0 p1 p2 p3 p4 p5 p6 p7 p8 HN6 HL6
        clear qN60 zN60 qN61 zN61 qN62 zN62 qN63 zN63 qN64 zN64 qN65 zN65 qN66 zN66 qN67 zN67 qN68 zN68 lt_N6
        have HN6 := Lib.hid hn6; have HL6 := Lib.hid hl6; clear hn6 hl6
        obtain ⟨w6, rfl⟩ : ∃ wo : World, wo = wc := ⟨_, rfl⟩
        have qN60 := (cell_of_block (k := 0) HN6.out rfl).1; have zN60 := (cell_of_block (k := 0) HN6.out rfl).2; have qN61 := (cell_of_block (k := 1) HN6.out rfl).1; have zN61 := (cell_of_block (k := 1) HN6.out rfl).2; have qN62 := (cell_of_block (k := 2) HN6.out rfl).1; have zN62 := (cell_of_block (k := 2) HN6.out rfl).2; have qN63 := (cell_of_block (k := 3) HN6.out rfl).1; have zN63 := (cell_of_block (k := 3) HN6.out rfl).2; have qN64 := (cell_of_block (k := 4) HN6.out rfl).1; have zN64 := (cell_of_block (k := 4) HN6.out rfl).2; have qN65 := (cell_of_block (k := 5) HN6.out rfl).1; have zN65 := (cell_of_block (k := 5) HN6.out rfl).2; have qN66 := (cell_of_block (k := 6) HN6.out rfl).1; have zN66 := (cell_of_block (k := 6) HN6.out rfl).2; have qN67 := (cell_of_block (k := 7) HN6.out rfl).1; have zN67 := (cell_of_block (k := 7) HN6.out rfl).2; have qN68 := (cell_of_block (k := 8) HN6.out rfl).1; have zN68 := (cell_of_block (k := 8) HN6.out rfl).2; have lt_N6 := blk_lt HN6.out
        go_upto_region 18 with fail
        have HN7 := Lib.hid (cells_eq (block_setCell (k := 8) (v := .string P.s) HN6.out) (by rw [← HV.out.1, ← HV.out.2.1, ← HV.out.2.2]; rfl : _ = #[.int .i64 P.f, .int .i64 P.t, .int .i64 P.pr, .int .i64 P.ttl, .int .i64 P.id, .bool P.df, .bool P.mf, .int .i64 P.off, .string P.s]))
        have HL7 : Hid (L29 w b (cutN e) w1.heap.size T g pc j A1 (fun q => q = Bd) (World.setCell w6 ⟨Bd, 8, none⟩ (.string P.s))) := Lib.hid ⟨HL6.out.st, HL6.out.one.setCell ⟨.inr rfl, hzr⟩ _, HL6.out.row.kept (fun a e => by cases e; exact Below.heap_setCell _ _ _ _ (by show g ≠ Bd; omega))⟩
        clear HN6 HL6
        clear qN60 zN60 qN61 zN61 qN62 zN62 qN63 zN63 qN64 zN64 qN65 zN65 qN66 zN66 qN67 zN67 qN68 zN68 lt_N6
        generalize World.setCell w6 ⟨Bd, 8, none⟩ (.string P.s) = w7 at *
        have qN70 := (cell_of_block (k := 0) HN7.out rfl).1; have zN70 := (cell_of_block (k := 0) HN7.out rfl).2; have qN71 := (cell_of_block (k := 1) HN7.out rfl).1; have zN71 := (cell_of_block (k := 1) HN7.out rfl).2; have qN72 := (cell_of_block (k := 2) HN7.out rfl).1; have zN72 := (cell_of_block (k := 2) HN7.out rfl).2; have qN73 := (cell_of_block (k := 3) HN7.out rfl).1; have zN73 := (cell_of_block (k := 3) HN7.out rfl).2; have qN74 := (cell_of_block (k := 4) HN7.out rfl).1; have zN74 := (cell_of_block (k := 4) HN7.out rfl).2; have qN75 := (cell_of_block (k := 5) HN7.out rfl).1; have zN75 := (cell_of_block (k := 5) HN7.out rfl).2; have qN76 := (cell_of_block (k := 6) HN7.out rfl).1; have zN76 := (cell_of_block (k := 6) HN7.out rfl).2; have qN77 := (cell_of_block (k := 7) HN7.out rfl).1; have zN77 := (cell_of_block (k := 7) HN7.out rfl).2; have qN78 := (cell_of_block (k := 8) HN7.out rfl).1; have zN78 := (cell_of_block (k := 8) HN7.out rfl).2; have lt_N7 := blk_lt HN7.out
        have HPUT := Lib.hid (HL7.out.put P q ok 0 HPUT0.out (by omega) HST.out)
        go_wp2_with fail
        refine HPUT.out.mono ?_
        rintro y w8 ⟨rfl, hL8⟩
        have HL8 := Lib.hid hL8; clear hL8 HPUT
        clear qN70 zN70 qN71 zN71 qN72 zN72 qN73 zN73 qN74 zN74 qN75 zN75 qN76 zN76 qN77 zN77 qN78 zN78 lt_N7
        obtain ⟨w9, hw9⟩ : ∃ w9 : World, w8.alloc (.cells #[.int .i64 q.f, .int .i64 q.t, .int .i64 q.pr, .int .i64 q.ttl, .int .i64 q.id, .bool q.df, .bool q.mf, .int .i64 q.off, .string q.s] 30) = w9 := ⟨_, rfl⟩
        have HN9 := Lib.hid (alloc_new w8 (.cells #[.int .i64 q.f, .int .i64 q.t, .int .i64 q.pr, .int .i64 q.ttl, .int .i64 q.id, .bool q.df, .bool q.mf, .int .i64 q.off, .string q.s] 30))
        have HL9 := Lib.hid (HL8.out.below ((Below.refl _ _).alloc (Nat.le_refl _) (.cells #[.int .i64 q.f, .int .i64 q.t, .int .i64 q.pr, .int .i64 q.ttl, .int .i64 q.id, .bool q.df, .bool q.mf, .int .i64 q.off, .string q.s] 30)))
        rw [hw9] at HL9 HN9
        have qN90 := (cell_of_block (k := 0) HN9.out rfl).1; have zN90 := (cell_of_block (k := 0) HN9.out rfl).2; have qN91 := (cell_of_block (k := 1) HN9.out rfl).1; have zN91 := (cell_of_block (k := 1) HN9.out rfl).2; have qN92 := (cell_of_block (k := 2) HN9.out rfl).1; have zN92 := (cell_of_block (k := 2) HN9.out rfl).2; have qN93 := (cell_of_block (k := 3) HN9.out rfl).1; have zN93 := (cell_of_block (k := 3) HN9.out rfl).2; have qN94 := (cell_of_block (k := 4) HN9.out rfl).1; have zN94 := (cell_of_block (k := 4) HN9.out rfl).2; have qN95 := (cell_of_block (k := 5) HN9.out rfl).1; have zN95 := (cell_of_block (k := 5) HN9.out rfl).2; have qN96 := (cell_of_block (k := 6) HN9.out rfl).1; have zN96 := (cell_of_block (k := 6) HN9.out rfl).2; have qN97 := (cell_of_block (k := 7) HN9.out rfl).1; have zN97 := (cell_of_block (k := 7) HN9.out rfl).2; have qN98 := (cell_of_block (k := 8) HN9.out rfl).1; have zN98 := (cell_of_block (k := 8) HN9.out rfl).2; have lt_N9 := blk_lt HN9.out
        unfold PutRes PkV
        cases ok with
        | true =>
          have hqb := HQ.out rfl
          have HQS : Hid (q.s = b) := Lib.hid (by rw [hqb]; rfl)
          have hjm1 := HOK.out.1 rfl
          have d5 : ((j : Int) + 1 == (m : Int)) = true := by rw [beq_iff_eq]; omega
          clear hjm1 hqb
          go_wp2_with fail
          go_roundw
          case rel => exact ⟨j + 1, A3, _, by omega, rfl, fun _ => HQS.out, by go_num, HL9.out⟩
          case measure => simp [Go.RowKit.intOf]; omega
        | false =>
          have hjm1 : ¬ j + 1 = m := fun q => by have := HOK.out.2 q; cases this
          have d5 : ((j : Int) + 1 == (m : Int)) = false := by rw [beq_eq_false_iff_ne]; omega
          have HJ := Lib.hid hjm1
          clear hjm1
          go_wp2_with fail
          go_roundw
          case rel => exact ⟨j + 1, A3, _, by omega, rfl, fun q => absurd q HJ.out, by go_num, HL9.out⟩
          case measure => simp [Go.RowKit.intOf]; omega
      · have d1 : decide ((j : Int) < (m : Int)) = false := decide_eq_false (by omega)
        have HBL := Lib.hid HL.out.one.bel
        obtain rfl := hu (by omega)
        go_wp2_with fail
        go_ret
        exact ⟨rfl, HBL.out⟩
theorem hdr_law' (s : ByteArray) (e : Int) (w : World) (hs : s.size ≤ 9223372036854775807) (he : 0 ≤ e ∧ e ≤ 255) :
    Calls Try.prog 9 #[.string s, .int .u8 e] w fun x w' => x = .returned (.bool true) ∧ Below w.heap.size w w' := by
  obtain ⟨n, rfl⟩ := Int.eq_ofNat_of_zero_le he.1
  exact hdr_law s n w hs (by omega)
end Go.Proofs.Ytmeldgnjgogacaa.Re
