/-
  Plain laws of package icmp: Decode inverts Encode, a changed byte is refused, what is quoted. No program in sight.
-/
import Derived.Test.YtmcfllogcmnnoaaDoorIc8
import Derived.Test.YtmcfllogcmnnoaaDoorIc10
import Derived.Test.YtmcfllogcmnnoaaDoorPlain
namespace Go.Proofs.YtmcfllogcmnnoaaDoor.Ic
set_option maxRecDepth 100000
open Go.RowKit Go.Proofs.YtmcfllogcmnnoaaDoor.Wire
open Go.Proofs.YtmcfllogcmnnoaaDoor.Ip (Pk VLen encP nAt mid_num)

theorem MOk.bd {k c n : Int} {z : Nat} (h : MOk k c n z) : (1 ≤ k ∧ k ≤ 5) ∧ (0 ≤ c ∧ c ≤ 4) ∧ (0 ≤ n ∧ n ≤ 4294967295) ∧ z ≤ 500 := by
  obtain ⟨hk, hs, hm⟩ := h
  refine ⟨hk, ?_, ?_, ?_⟩
  all_goals
    unfold Suits at hs
    unfold mostOf at hm
    split at hs
    · split at hm <;> (try split at hm) <;> omega
    · split at hs
      · split at hm <;> (try split at hm) <;> omega
      · split at hs <;> (split at hm <;> (try split at hm) <;> omega)
theorem mbytes_eq (k c n : Int) (s : ByteArray) (sm : Int) : mbytes k c n s sm = be 1 k ++ (be 1 c ++ (be 2 sm ++ (be 4 n ++ s.data.toList))) := by
  unfold mbytes pes
  simp only [List.flatMap_cons, List.flatMap_nil, List.append_nil, List.append_assoc]
  rfl
theorem mbytes_len (k c n : Int) (s : ByteArray) (sm : Int) : (mbytes k c n s sm).length = 8 + s.size := by
  rw [mbytes_eq]
  simp only [List.length_append, be_length]
  have : s.data.toList.length = s.size := rfl
  omega
theorem menc_len (k c n : Int) (s : ByteArray) : (menc k c n s).length = 8 + s.size := mbytes_len k c n s _
theorem msum_bd (k c n : Int) (s : ByteArray) : 0 ≤ msum k c n s ∧ msum k c n s ≤ 65535 := csum_bd' _
theorem fval_eq (s : ByteArray) : fval s 0 = nAt s 0 1 ∧ fval s 1 = nAt s 1 1 ∧ fval s 3 = nAt s 4 4 := ⟨rfl, rfl, rfl⟩
/-- the fields of an encoding -/
theorem enc_fields (k c n : Int) (s : ByteArray) (h : MOk k c n s.size) :
    fval ⟨(menc k c n s).toArray⟩ 0 = k ∧ fval ⟨(menc k c n s).toArray⟩ 1 = c ∧ fval ⟨(menc k c n s).toArray⟩ 3 = n ∧ tailOf ⟨(menc k c n s).toArray⟩ = s := by
  obtain ⟨h1, h2, h3, h4⟩ := h.bd
  have hm := msum_bd k c n s
  have e : menc k c n s = be 1 k ++ (be 1 c ++ (be 2 (msum k c n s) ++ (be 4 n ++ s.data.toList))) := mbytes_eq _ _ _ _ _
  obtain ⟨f0, f1, f3⟩ := fval_eq ⟨(menc k c n s).toArray⟩
  rw [f0, f1, f3]
  refine ⟨mid_num _ [] _ 0 1 k e rfl (by omega) (by omega), mid_num _ (be 1 k) _ 1 1 c e (be_length _ _) (by omega) (by omega), mid_num _ (be 1 k ++ be 1 c ++ be 2 (msum k c n s)) s.data.toList 4 4 n (by rw [e]; simp only [List.append_assoc]) (by simp [be_length]) (by omega) (by omega), ?_⟩
  unfold tailOf
  apply ByteArray.ext
  apply Array.ext'
  rw [ByteArray.data_extract, sz, menc_len]
  rw [e]
  simp only [List.extract_toArray]
  have l8 : (be 1 k ++ (be 1 c ++ (be 2 (msum k c n s) ++ be 4 n))).length = 8 := by simp [be_length]
  have e2 : be 1 k ++ (be 1 c ++ (be 2 (msum k c n s) ++ (be 4 n ++ s.data.toList))) = (be 1 k ++ (be 1 c ++ (be 2 (msum k c n s) ++ be 4 n))) ++ s.data.toList := by simp only [List.append_assoc]
  rw [e2, List.extract_eq_take_drop, List.drop_append_of_le_length (by omega), List.drop_of_length_le (by omega), List.nil_append, List.take_of_length_le]
  have : s.data.toList.length = s.size := rfl
  omega
theorem enc_dcK (k c n : Int) (s : ByteArray) (h : MOk k c n s.size) : dcK ⟨(menc k c n s).toArray⟩ ∧ dcV ⟨(menc k c n s).toArray⟩ = .agg #[.int .i64 k, .int .i64 c, .int .i64 n, .string s] := by
  obtain ⟨f0, f1, f2, f3⟩ := enc_fields k c n s h
  refine ⟨⟨by rw [sz, menc_len]; omega, ?_, ?_⟩, ?_⟩
  · rw [f0, f1, f2, f3]; exact h
  · rw [f0, f1, f2, f3]
  · unfold dcV; rw [f0, f1, f2, f3]
/-- the words of an encoding -/
theorem menc_ws (k c n : Int) (s : ByteArray) : ws (menc k c n s) % 65535 = 0 := by
  have hm := csum_mod (mbytes k c n s 0)
  have hb := msum_bd k c n s
  have key : ∀ sm : Int, 0 ≤ sm → sm < 65536 → ws (mbytes k c n s sm) = ws (be 1 k ++ be 1 c) + (sm + ws (be 4 n ++ s.data.toList)) := by
    intro sm h0 h1
    rw [mbytes_eq, ← List.append_assoc, ws_append (be 1 k ++ be 1 c) _ (by rw [List.length_append, be_length, be_length]), ws_append (be 2 sm) _ (by rw [be_length]), ws_be2 _ h0 h1]
  unfold menc
  rw [key _ hb.1 (by omega)]
  rw [key 0 (by omega) (by omega)] at hm
  have : csum ⟨(mbytes k c n s 0).toArray⟩ = msum k c n s := rfl
  omega
theorem dcK_ws (s : ByteArray) (h : dcK s) : ws s.data.toList % 65535 = 0 := by
  have := menc_ws (fval s 0) (fval s 1) (fval s 3) (tailOf s)
  have e := congrArg (fun t : ByteArray => t.data.toList) h.2.2
  simp only at e
  rwa [e] at this
/-- one byte changed: refused -/
theorem set_no (l : List UInt8) (h : dcK ⟨l.toArray⟩) (i : Nat) (hi : i < l.length) (v : UInt8) (hv : v ≠ l[i]) : ¬ dcK ⟨(l.set i v).toArray⟩ := by
  intro h'
  have h1 := dcK_ws _ h
  have h2 := dcK_ws _ h'
  simp only at h1 h2
  rw [ws_set l i v hi] at h2
  have b1 := u8_bd v
  have b2 := u8_bd l[i]
  have hne : (v.toNat : Int) ≠ (l[i].toNat : Int) := fun q => hv (UInt8.toNat_inj.1 (Int.ofNat_inj.1 q))
  split at h2 <;> omega
/-- the quotation -/
theorem quoteP_take (p : Pk) : quoteP p = ⟨((encP p).take 28).toArray⟩ := by
  unfold quoteP
  apply ByteArray.ext
  apply Array.ext'
  rw [ByteArray.data_extract]
  simp only [List.extract_toArray, List.extract_eq_take_drop, List.drop_zero, Nat.sub_zero]
  rcases Nat.le_total 28 (encP p).length with q | q
  · rw [Nat.min_eq_left q]
  · rw [Nat.min_eq_right q, List.take_of_length_le (Nat.le_refl _), List.take_of_length_le q]
theorem quote_ok {k c n : Int} {p : Pk} (h : neOk k c n p) : quOk k c n (quoteP p) := by
  refine ⟨h.2.2.2.2.1, h.2.2.2.2.2, ?_⟩
  rw [quoteP_take]
  exact Ip.cut_dhOk p h.1 28 (by omega)
theorem quote_val (p : Pk) (h : p.ok) : (pkS (quoteP p)).val = ({ p with s := ⟨(p.s.data.toList.take 8).toArray⟩ : Pk } : Pk).val := by
  rw [← pkS_val, quoteP_take]
  exact Ip.cut_pkOf p h 28 (by omega)
theorem menc_head (k c n : Int) (s : ByteArray) (h0 : 0 ≤ k) (h1 : k < 256) : ((menc k c n s).getD 0 0).toNat = k.toNat := by
  have e : menc k c n s = be 1 k ++ (be 1 c ++ (be 2 (msum k c n s) ++ (be 4 n ++ s.data.toList))) := mbytes_eq _ _ _ _ _
  have hq : num (be 1 k) = k := num_be 1 k h0 (by omega)
  have hl := be_length 1 k
  rw [e]
  generalize be 1 k = b at *
  match b, hl with
  | [x], _ =>
    simp [num] at hq
    simp
    omega
end Go.Proofs.YtmcfllogcmnnoaaDoor.Ic
