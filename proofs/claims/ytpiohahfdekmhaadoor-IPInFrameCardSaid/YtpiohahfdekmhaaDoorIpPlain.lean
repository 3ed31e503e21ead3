/-
  Plain laws of chapter 6: Decode inverts Encode, a changed header is refused, a truncated encoding yields the header. No program in sight.
-/
import Derived.Test.YtpiohahfdekmhaaDoorIpDec6
import Derived.Test.YtpiohahfdekmhaaDoorFrag0
import Derived.Test.YtpiohahfdekmhaaDoorPlain
namespace Go.Proofs.YtpiohahfdekmhaaDoor.Ip
set_option maxRecDepth 100000
open Go.RowKit Go.Proofs.YtpiohahfdekmhaaDoor.Wire

/-- a valid datagram -/
def Pk.ok (p : Pk) : Prop := VLen p.f p.t p.pr p.ttl p.id p.df p.mf p.off p.s.size
/-- its header, and its encoding -/
def hd (p : Pk) (n : Int) : List UInt8 := hdr p.f p.t p.pr p.ttl p.id p.df p.mf p.off n
def encP (p : Pk) : List UInt8 := hd p p.s.size ++ p.s.data.toList
theorem encP_length (p : Pk) : (encP p).length = 20 + p.s.size := by
  unfold encP hd
  rw [List.length_append, hdr_length]; rfl
theorem midL (x y z : List UInt8) (a k : Nat) (hx : x.length = a) (hy : y.length = k) : ((x ++ (y ++ z)).drop a).take k = y := by
  subst hx; subst hy; simp
theorem mid_num (L x z : List UInt8) (a k : Nat) (n : Int) (h : L = x ++ (be k n ++ z)) (hx : x.length = a) (h0 : 0 ≤ n) (h1 : n < 256 ^ k) : nAt ⟨L.toArray⟩ a k = n := by
  show num ((L.drop a).take k) = n
  rw [h, midL x (be k n) z a k hx (be_length k n), num_be k n h0 h1]
theorem dfOf_eq (s : ByteArray) (df mf : Bool) (h : nAt s 13 1 = flagsOf df mf) : dfOf s = df ∧ mfOf s = mf := by
  unfold dfOf mfOf
  rw [h]
  cases df <;> cases mf <;> decide
/-- the fields that stand in any string which begins with the header -/
theorem fields (p : Pk) (n : Int) (z : List UInt8) (h : VLen p.f p.t p.pr p.ttl p.id p.df p.mf p.off n) (h0 : 0 ≤ n) :
    nAt ⟨(hd p n ++ z).toArray⟩ 0 1 = 4 ∧ nAt ⟨(hd p n ++ z).toArray⟩ 1 4 = p.f ∧ nAt ⟨(hd p n ++ z).toArray⟩ 5 4 = p.t ∧ nAt ⟨(hd p n ++ z).toArray⟩ 9 1 = p.pr ∧ nAt ⟨(hd p n ++ z).toArray⟩ 10 1 = p.ttl ∧ nAt ⟨(hd p n ++ z).toArray⟩ 11 2 = p.id ∧
      dfOf ⟨(hd p n ++ z).toArray⟩ = p.df ∧ mfOf ⟨(hd p n ++ z).toArray⟩ = p.mf ∧ 8 * nAt ⟨(hd p n ++ z).toArray⟩ 14 2 = p.off ∧ nAt ⟨(hd p n ++ z).toArray⟩ 16 2 = n := by
  obtain ⟨f, t, pr, ttl, id, df, mf, off, s⟩ := p
  obtain ⟨⟨a1, a2, a3, a4⟩, ⟨a5, a6, a7, a8, a9, a10⟩, ⟨a11, a12, a13, a14⟩, -, -, -⟩ := h
  have hfl := flagsOf_bd df mf
  dsimp only at *
  generalize hc : be 2 (csum ⟨(front f t pr ttl id df mf off n ++ [0, 0]).toArray⟩) = c
  have hL : hd ⟨f, t, pr, ttl, id, df, mf, off, s⟩ n ++ z = be 1 4 ++ (be 4 f ++ (be 4 t ++ (be 1 pr ++ (be 1 ttl ++ (be 2 id ++ (be 1 (flagsOf df mf) ++ (be 2 (off / 8) ++ (be 2 n ++ (c ++ z))))))))) := by
    unfold hd hdr; dsimp only; rw [hc]; simp [front, parts]
  rw [hL]
  have hdm := dfOf_eq ⟨(be 1 4 ++ (be 4 f ++ (be 4 t ++ (be 1 pr ++ (be 1 ttl ++ (be 2 id ++ (be 1 (flagsOf df mf) ++ (be 2 (off / 8) ++ (be 2 n ++ (c ++ z)))))))))).toArray⟩ df mf
    (mid_num _ (be 1 4 ++ be 4 f ++ be 4 t ++ be 1 pr ++ be 1 ttl ++ be 2 id) _ 13 1 (flagsOf df mf) (by simp only [List.append_assoc]; rfl) (by simp [be_length]) hfl.1 (by omega))
  refine ⟨mid_num _ [] _ 0 1 4 rfl rfl (by omega) (by omega), mid_num _ (be 1 4) _ 1 4 f rfl (by simp [be_length]) (by omega) (by omega), mid_num _ (be 1 4 ++ be 4 f) _ 5 4 t (by simp only [List.append_assoc]; rfl) (by simp [be_length]) (by omega) (by omega),
    mid_num _ (be 1 4 ++ be 4 f ++ be 4 t) _ 9 1 pr (by simp only [List.append_assoc]; rfl) (by simp [be_length]) (by omega) (by omega), mid_num _ (be 1 4 ++ be 4 f ++ be 4 t ++ be 1 pr) _ 10 1 ttl (by simp only [List.append_assoc]; rfl) (by simp [be_length]) (by omega) (by omega),
    mid_num _ (be 1 4 ++ be 4 f ++ be 4 t ++ be 1 pr ++ be 1 ttl) _ 11 2 id (by simp only [List.append_assoc]; rfl) (by simp [be_length]) (by omega) (by omega), hdm.1, hdm.2, ?_, ?_⟩
  · rw [mid_num _ (be 1 4 ++ be 4 f ++ be 4 t ++ be 1 pr ++ be 1 ttl ++ be 2 id ++ be 1 (flagsOf df mf)) _ 14 2 (off / 8) (by simp only [List.append_assoc]; rfl) (by simp [be_length]) (by omega) (by omega)]
    omega
  · exact mid_num _ (be 1 4 ++ be 4 f ++ be 4 t ++ be 1 pr ++ be 1 ttl ++ be 2 id ++ be 1 (flagsOf df mf) ++ be 2 (off / 8)) _ 16 2 n (by simp only [List.append_assoc]; rfl) (by simp [be_length]) (by omega) (by omega)
theorem hd_length (p : Pk) (n : Int) : (hd p n).length = 20 := hdr_length _ _ _ _ _ _ _ _ _
theorem dV_of (p : Pk) (n : Int) (z : List UInt8) (h : VLen p.f p.t p.pr p.ttl p.id p.df p.mf p.off n) (h0 : 0 ≤ n) : dV ⟨(hd p n ++ z).toArray⟩ := by
  obtain ⟨e0, e1, e2, e3, e4, e5, e6, e7, e8, e9⟩ := fields p n z h h0
  refine ⟨?_, e0, ?_, ?_⟩
  · rw [sz, List.length_append, hd_length]; omega
  · rw [e1, e2, e3, e4, e5, e6, e7, e8, e9]; exact h
  · rw [e1, e2, e3, e4, e5, e6, e7, e8, e9]
    show hd p n = (hd p n ++ z).take 20
    rw [List.take_append_of_le_length (by rw [hd_length]; omega), List.take_of_length_le (by rw [hd_length]; omega)]
theorem extract20 (l z : List UInt8) (h : l.length = 20) : (⟨(l ++ z).toArray⟩ : ByteArray).extract 20 (⟨(l ++ z).toArray⟩ : ByteArray).size = ⟨z.toArray⟩ := by
  apply ByteArray.ext
  apply Array.ext'
  rw [sz, ByteArray.data_extract]
  simp [h]
theorem pkOf_of (p : Pk) (n : Int) (z : List UInt8) (h : VLen p.f p.t p.pr p.ttl p.id p.df p.mf p.off n) (h0 : 0 ≤ n) : pkOf ⟨(hd p n ++ z).toArray⟩ = { p with s := ⟨z.toArray⟩ : Pk }.val := by
  obtain ⟨e0, e1, e2, e3, e4, e5, e6, e7, e8, e9⟩ := fields p n z h h0
  unfold pkOf Pk.val
  rw [e1, e2, e3, e4, e5, e6, e7, e8, extract20 _ _ (hd_length p n)]
/-- Decode inverts Encode -/
theorem enc_dcOk (p : Pk) (h : p.ok) : dcOk ⟨(encP p).toArray⟩ := by
  refine ⟨dV_of p p.s.size p.s.data.toList h (by omega), ?_⟩
  unfold encP
  rw [(fields p p.s.size p.s.data.toList h (by omega)).2.2.2.2.2.2.2.2.2, sz, List.length_append, hd_length]
  have : p.s.data.toList.length = p.s.size := rfl
  omega
theorem enc_pkOf (p : Pk) (h : p.ok) : pkOf ⟨(encP p).toArray⟩ = p.val := by
  unfold encP
  rw [pkOf_of p p.s.size p.s.data.toList h (by omega)]
/-- a truncated encoding -/
theorem cut_enc (p : Pk) (n : Nat) (h : 20 ≤ n) : (encP p).take n = hd p p.s.size ++ p.s.data.toList.take (n - 20) := by
  unfold encP
  rw [List.take_append, hd_length, List.take_of_length_le (by rw [hd_length]; exact h)]
theorem cut_dhOk (p : Pk) (hp : p.ok) (n : Nat) (h : 20 ≤ n) : dhOk ⟨((encP p).take n).toArray⟩ := by
  rw [cut_enc p n h]
  refine ⟨dV_of p p.s.size _ hp (by omega), ?_⟩
  rw [(fields p p.s.size (p.s.data.toList.take (n - 20)) hp (by omega)).2.2.2.2.2.2.2.2.2, sz, List.length_append, hd_length, List.length_take]
  have : p.s.data.toList.length = p.s.size := rfl
  omega
theorem cut_pkOf (p : Pk) (hp : p.ok) (n : Nat) (h : 20 ≤ n) : pkOf ⟨((encP p).take n).toArray⟩ = { p with s := ⟨(p.s.data.toList.take (n - 20)).toArray⟩ : Pk }.val := by
  rw [cut_enc p n h, pkOf_of p p.s.size _ hp (by omega)]
theorem short_no (s : ByteArray) (h : s.size < 20) : ¬ dV s := fun q => by have := q.1; omega
/-- distinct datagrams have distinct encodings -/
theorem val_inj {p q : Pk} (h : p.val = q.val) : p = q := by
  obtain ⟨f, t, pr, ttl, id, df, mf, off, s⟩ := p
  obtain ⟨f', t', pr', ttl', id', df', mf', off', s'⟩ := q
  simp only [Pk.val, Value.agg.injEq, Array.mk.injEq, List.cons.injEq, Value.int.injEq, Value.bool.injEq, Value.string.injEq, true_and, and_true] at h
  obtain ⟨rfl, rfl, rfl, rfl, rfl, rfl, rfl, rfl, rfl⟩ := h
  rfl
theorem enc_injP (p q : Pk) (hp : p.ok) (hq : q.ok) (h : encP p = encP q) : p = q :=
  val_inj (by rw [← enc_pkOf p hp, h, enc_pkOf q hq])
/-- the sum of the words of a header -/
theorem dV_sum (s : ByteArray) (h : dV s) : ws (s.data.toList.take 20) % 65535 = 0 := by
  obtain ⟨h20, -, -, he⟩ := h
  rw [← he]
  unfold hdr
  generalize hF : front (nAt s 1 4) (nAt s 5 4) (nAt s 9 1) (nAt s 10 1) (nAt s 11 2) (dfOf s) (mfOf s) (8 * nAt s 14 2) (nAt s 16 2) = F
  have hl : F.length = 18 := by rw [← hF]; exact front_length _ _ _ _ _ _ _ _ _
  have hm := csum_mod (F ++ [0, 0])
  have hb := csum_bd ⟨(F ++ [0, 0]).toArray⟩
  rw [ws_append _ _ (by omega)] at hm
  rw [ws_append _ _ (by omega), ws_be2 _ hb.1 (by omega)]
  have : ws [0, 0] = 0 := by decide
  omega
/-- one byte of the header changed: refused -/
theorem flip_no (R : List UInt8) (h : dV ⟨R.toArray⟩) (k : Nat) (hk : k < 20) (hR : 20 ≤ R.length) (v : UInt8) (hv : v ≠ R[k]'(by omega)) : ¬ dV ⟨(R.set k v).toArray⟩ := by
  intro h'
  have h1 := dV_sum _ h
  have h2 := dV_sum _ h'
  have e1 : (⟨R.toArray⟩ : ByteArray).data.toList.take 20 = R.take 20 := by simp
  have e2 : (⟨(R.set k v).toArray⟩ : ByteArray).data.toList.take 20 = (R.take 20).set k v := by simp [List.take_set]
  rw [e1] at h1
  rw [e2, ws_set _ _ _ (by rw [List.length_take]; omega)] at h2
  rw [List.getElem_take] at h2
  have hb1 := u8_bd v
  have hb2 := u8_bd (R[k]'(by omega))
  have hne : (v.toNat : Int) ≠ ((R[k]'(by omega)).toNat : Int) := fun q => hv (UInt8.toNat_inj.1 (Int.ofNat_inj.1 q))
  split at h2 <;> omega
end Go.Proofs.YtpiohahfdekmhaaDoor.Ip
