/-
  Plain laws of chapter 11: Decode inverts Encode; the checksum over the pseudo-header and an encoding is 0; a changed byte or address is detected. No program in sight.
-/
import Derived.Test.YtmgjcjacoegocaaDoorSgDec2
namespace Go.Proofs.YtmgjcjacoegocaaDoor.Sg
set_option maxRecDepth 100000
open Go.RowKit Go.Proofs.YtmgjcjacoegocaaDoor.Wire

def Seg.pre (x : Seg) : List UInt8 := bes 2 [x.fp, x.tp] ++ bes 4 [x.sq, x.ack] ++ bes 1 [flagsOf x.syn x.fin x.rst x.ha x.sacks, (x.bl.length : Int)] ++ bes 2 [x.win, x.mss]
def Seg.post (x : Seg) : List UInt8 := blBytes x.bl ++ x.s.data.toList
def csOf (f d : Int) (x : Seg) : Int := csum ⟨(pseudo f d (x.bytes 0).length ++ x.bytes 0).toArray⟩
theorem bytes_eq (x : Seg) (c : Int) : x.bytes c = x.pre ++ (be 2 c ++ x.post) := by
  unfold Seg.bytes sb sbytes Seg.pre Seg.post
  simp [bes]
theorem pre_length (x : Seg) : x.pre.length = 18 := by simp [Seg.pre, bes_length]
theorem enc_eq (f d : Int) (x : Seg) : x.enc f d = x.pre ++ (be 2 (csOf f d x) ++ x.post) := by
  unfold Seg.enc encOf csOf; rw [bytes_eq]
theorem enc_length (f d : Int) (x : Seg) : (x.enc f d).length = 20 + 8 * x.bl.length + x.s.size := by
  rw [enc_eq]
  have h : x.s.data.toList.length = x.s.size := rfl
  simp only [List.length_append, pre_length, be_length, Seg.post, blBytes_length, h]
  omega
theorem bytes_length (x : Seg) (c : Int) : (x.bytes c).length = 20 + 8 * x.bl.length + x.s.size := sbytes_length _ _ _ _ _ _ _ _ _ _ _ _ _ _
theorem pseudo_length (f d : Int) (n : Nat) : (pseudo f d n).length = 12 := by simp [pseudo, bes_length]
theorem cs_bd (f d : Int) (x : Seg) : 0 ≤ csOf f d x ∧ csOf f d x ≤ 65535 := csum_bd _
/-- the words of the pseudo-header and of an encoding -/
theorem enc_sum (f d : Int) (x : Seg) : ws (pseudo f d (x.enc f d).length ++ x.enc f d) % 65535 = 0 := by
  have hm := csum_mod (pseudo f d (x.bytes 0).length ++ x.bytes 0)
  have hb := cs_bd f d x
  have hl : (x.enc f d).length = (x.bytes 0).length := by rw [enc_length, bytes_length]
  rw [hl, enc_eq]
  change (_ + csOf f d x) % 65535 = 0 at hm
  generalize csOf f d x = c at *
  rw [bytes_eq x 0] at hm ⊢
  generalize (x.pre ++ (be 2 0 ++ x.post)).length = n at *
  have e2 : ∀ k : Int, (be 2 k).length % 2 = 0 := fun k => by rw [be_length]
  rw [ws_append _ _ (by rw [pseudo_length]), ws_append _ _ (by rw [pre_length]), ws_append _ _ (e2 _)] at hm ⊢
  rw [ws_be2 _ (by omega) (by omega)] at hm
  rw [ws_be2 _ hb.1 (by omega)]
  omega
theorem ws_pos_of (l : List UInt8) (b : UInt8) (hb : b ≠ 0) (hm : b ∈ l) : 0 < ws l := by
  induction l using ws.induct with
  | case1 => cases hm
  | case2 a =>
    have : b = a := by simpa using hm
    subst this
    have h : b.toNat ≠ 0 := fun q => hb (UInt8.toNat_inj.1 (by simpa using q))
    simp only [ws]; omega
  | case3 a c r ih =>
    have hr := ws_nonneg r
    simp only [ws]
    rcases List.mem_cons.1 hm with e | hm
    · subst e
      have h : b.toNat ≠ 0 := fun q => hb (UInt8.toNat_inj.1 (by simpa using q))
      omega
    rcases List.mem_cons.1 hm with e | hm
    · subst e
      have h : b.toNat ≠ 0 := fun q => hb (UInt8.toNat_inj.1 (by simpa using q))
      omega
    · have := ih hm; omega
theorem csum_zero (l : List UInt8) (h : ws l % 65535 = 0) (hp : 0 < ws l) : csum ⟨l.toArray⟩ = 0 := by
  unfold csum
  rw [wsum_eq]
  unfold fold
  rw [if_neg (by omega)]
  omega
/-- the checksum over the pseudo-header and an encoding is 0 -/
theorem enc_csum (f d : Int) (x : Seg) : csum ⟨(pseudo f d (x.enc f d).length ++ x.enc f d).toArray⟩ = 0 := by
  refine csum_zero _ (enc_sum f d x) ?_
  refine ws_pos_of _ 6 (by decide) ?_
  have : bes 2 [6, ((x.enc f d).length : Int)] = [0, 6] ++ be 2 ((x.enc f d).length : Int) := by
    have : be 2 6 = [0, 6] := by decide
    simp [bes, this]
  unfold pseudo
  rw [this]
  simp

theorem midL (x y z : List UInt8) (a k : Nat) (hx : x.length = a) (hy : y.length = k) : ((x ++ (y ++ z)).drop a).take k = y := by
  subst hx; subst hy; simp
theorem mid_num (L x z : List UInt8) (a k : Nat) (n : Int) (h : L = x ++ (be k n ++ z)) (hx : x.length = a) (h0 : 0 ≤ n) (h1 : n < 256 ^ k) : nA ⟨L.toArray⟩ a k = n := by
  show num ((L.drop a).take k) = n
  rw [h, midL x (be k n) z a k hx (be_length k n), num_be k n h0 h1]
theorem flag_bits (a b c d e : Bool) : (bits .and .i64 (flagsOf a b c d e) 1 != 0) = a ∧ (bits .and .i64 (flagsOf a b c d e) 2 != 0) = b ∧ (bits .and .i64 (flagsOf a b c d e) 4 != 0) = c ∧ (bits .and .i64 (flagsOf a b c d e) 8 != 0) = d ∧ (bits .and .i64 (flagsOf a b c d e) 16 != 0) = e := by
  cases a <;> cases b <;> cases c <;> cases d <;> cases e <;> decide
theorem blBytes_split (bl : List (Int × Int)) (i : Nat) (x : Int × Int) (h : bl[i]? = some x) : blBytes bl = blBytes (bl.take i) ++ (be 4 x.1 ++ (be 4 x.2 ++ blBytes (bl.drop (i + 1)))) := by
  have hi : i < bl.length := (List.getElem?_eq_some_iff.1 h).1
  have hx : bl[i] = x := (List.getElem?_eq_some_iff.1 h).2
  have e : bl = bl.take i ++ (x :: bl.drop (i + 1)) := by
    rw [← hx, List.getElem_cons_drop, List.take_append_drop]
  conv => lhs; rw [e]
  simp [blBytes, bes]
theorem s_drop (P : List UInt8) (s : ByteArray) (n : Nat) (h : P.length = n) : (⟨(P ++ s.data.toList).toArray⟩ : ByteArray).extract n (⟨(P ++ s.data.toList).toArray⟩ : ByteArray).size = s := by
  apply ByteArray.ext
  apply Array.ext'
  rw [sz, ByteArray.data_extract]
  subst h
  simp
  exact List.take_of_length_le (Nat.le_refl _)
/-- Decode's candidate out of an encoding is the segment -/
theorem dec_enc (f d : Int) (x : Seg) (hx : x.ok) : dec ⟨(x.enc f d).toArray⟩ = x ∧ rdOk ⟨(x.enc f d).toArray⟩ (many ⟨(x.enc f d).toArray⟩) := by
  obtain ⟨fp, tp, sq, ack, syn, fin, rst, ha, win, mss, sacks, bl, s⟩ := x
  obtain ⟨⟨⟨a1, a2⟩, ⟨a3, a4⟩, ⟨a5, a6⟩, ⟨a7, a8⟩, -, a9, a10⟩, ⟨-, -, -, a11⟩, ⟨⟨a12, -⟩, hB1⟩, -⟩ := hx
  dsimp only at *
  have hlen := enc_length f d ⟨fp, tp, sq, ack, syn, fin, rst, ha, win, mss, sacks, bl, s⟩
  have hfl : 0 ≤ flagsOf syn fin rst ha sacks ∧ flagsOf syn fin rst ha sacks ≤ 31 := fsum_bd _ _ _ _ _ 5
  generalize hE : Seg.enc f d ⟨fp, tp, sq, ack, syn, fin, rst, ha, win, mss, sacks, bl, s⟩ = E at *
  have hL : E = be 2 fp ++ (be 2 tp ++ (be 4 sq ++ (be 4 ack ++ (be 1 (flagsOf syn fin rst ha sacks) ++ (be 1 (bl.length : Int) ++ (be 2 win ++ (be 2 mss ++ (be 2 (csOf f d ⟨fp, tp, sq, ack, syn, fin, rst, ha, win, mss, sacks, bl, s⟩) ++ (blBytes bl ++ s.data.toList))))))))) := by
    rw [← hE, enc_eq]; simp [Seg.pre, Seg.post, bes]
  clear hE
  generalize csOf f d ⟨fp, tp, sq, ack, syn, fin, rst, ha, win, mss, sacks, bl, s⟩ = c at *
  have l2 : ∀ k n, (be k n).length = k := be_length
  have e0 : nA ⟨E.toArray⟩ 0 2 = fp := mid_num _ [] _ 0 2 fp (by rw [hL]; rfl) rfl (by omega) (by omega)
  have e2 : nA ⟨E.toArray⟩ 2 2 = tp := mid_num _ (be 2 fp) _ 2 2 tp hL (l2 _ _) (by omega) (by omega)
  have e4 : nA ⟨E.toArray⟩ 4 4 = sq := mid_num _ (be 2 fp ++ be 2 tp) _ 4 4 sq (by rw [hL]; simp only [List.append_assoc]; rfl) (by simp [l2]) (by omega) (by omega)
  have e8 : nA ⟨E.toArray⟩ 8 4 = ack := mid_num _ (be 2 fp ++ be 2 tp ++ be 4 sq) _ 8 4 ack (by rw [hL]; simp only [List.append_assoc]; rfl) (by simp [l2]) (by omega) (by omega)
  have e12 : nA ⟨E.toArray⟩ 12 1 = flagsOf syn fin rst ha sacks := mid_num _ (be 2 fp ++ be 2 tp ++ be 4 sq ++ be 4 ack) _ 12 1 _ (by rw [hL]; simp only [List.append_assoc]; rfl) (by simp [l2]) (by omega) (by omega)
  have e13 : nA ⟨E.toArray⟩ 13 1 = (bl.length : Int) := mid_num _ (be 2 fp ++ be 2 tp ++ be 4 sq ++ be 4 ack ++ be 1 (flagsOf syn fin rst ha sacks)) _ 13 1 _ (by rw [hL]; simp only [List.append_assoc]; rfl) (by simp [l2]) (by omega) (by omega)
  have e14 : nA ⟨E.toArray⟩ 14 2 = win := mid_num _ (be 2 fp ++ be 2 tp ++ be 4 sq ++ be 4 ack ++ be 1 (flagsOf syn fin rst ha sacks) ++ be 1 (bl.length : Int)) _ 14 2 _ (by rw [hL]; simp only [List.append_assoc]; rfl) (by simp [l2]) (by omega) (by omega)
  have e16 : nA ⟨E.toArray⟩ 16 2 = mss := mid_num _ (be 2 fp ++ be 2 tp ++ be 4 sq ++ be 4 ack ++ be 1 (flagsOf syn fin rst ha sacks) ++ be 1 (bl.length : Int) ++ be 2 win) _ 16 2 _ (by rw [hL]; simp only [List.append_assoc]; rfl) (by simp [l2]) (by omega) (by omega)
  have em : many ⟨E.toArray⟩ = bl.length := by unfold many; rw [e13]; omega
  obtain ⟨b1, b2, b3, b4, b5⟩ := flag_bits syn fin rst ha sacks
  have hbl : blAt ⟨E.toArray⟩ bl.length = bl := by
    apply List.ext_getElem?
    intro i
    by_cases hi : i < bl.length
    · have hq : bl[i]? = some bl[i] := List.getElem?_eq_getElem hi
      obtain ⟨⟨g1, g2⟩, ⟨g3, g4⟩, -⟩ := hB1 i _ hq
      have hs := blBytes_split bl i _ hq
      generalize bl[i] = y at *
      obtain ⟨p, q⟩ := y
      dsimp only at *
      rw [hs] at hL
      have ht : (blBytes (bl.take i)).length = 8 * i := by rw [blBytes_length, List.length_take]; omega
      have h1 : nA ⟨E.toArray⟩ (20 + 8 * i) 4 = p := mid_num _ (be 2 fp ++ be 2 tp ++ be 4 sq ++ be 4 ack ++ be 1 (flagsOf syn fin rst ha sacks) ++ be 1 (bl.length : Int) ++ be 2 win ++ be 2 mss ++ be 2 c ++ blBytes (bl.take i)) _ (20 + 8 * i) 4 _ (by rw [hL]; simp only [List.append_assoc]; rfl) (by simp [l2, ht]; omega) (by omega) (by omega)
      have h2 : nA ⟨E.toArray⟩ (24 + 8 * i) 4 = q := mid_num _ (be 2 fp ++ be 2 tp ++ be 4 sq ++ be 4 ack ++ be 1 (flagsOf syn fin rst ha sacks) ++ be 1 (bl.length : Int) ++ be 2 win ++ be 2 mss ++ be 2 c ++ blBytes (bl.take i) ++ be 4 p) _ (24 + 8 * i) 4 _ (by rw [hL]; simp only [List.append_assoc]; rfl) (by simp [l2, ht]; omega) (by omega) (by omega)
      rw [hq]
      unfold blAt
      rw [List.getElem?_map, List.getElem?_range hi]
      simp only [Option.map_some, h1, h2]
    · rw [List.getElem?_eq_none (by rw [blAt_length]; omega), List.getElem?_eq_none (by omega)]
  have hs : (⟨E.toArray⟩ : ByteArray).extract (20 + 8 * bl.length) (⟨E.toArray⟩ : ByteArray).size = s := by
    have : E = (be 2 fp ++ be 2 tp ++ be 4 sq ++ be 4 ack ++ be 1 (flagsOf syn fin rst ha sacks) ++ be 1 (bl.length : Int) ++ be 2 win ++ be 2 mss ++ be 2 c ++ blBytes bl) ++ s.data.toList := by rw [hL]; simp only [List.append_assoc]
    rw [this]
    exact s_drop _ s _ (by simp [l2, blBytes_length]; omega)
  refine ⟨?_, ?_⟩
  · unfold dec fl
    rw [e0, e2, e4, e8, e12, e14, e16, em, b1, b2, b3, b4, b5, hbl, hs]
  · rw [em]
    refine ⟨a12, ?_⟩
    rw [sz, hlen]; dsimp only; omega
theorem enc_decOk (f d : Int) (x : Seg) (hx : x.ok) : decOk f d ⟨(x.enc f d).toArray⟩ := by
  obtain ⟨h1, h2⟩ := dec_enc f d x hx
  refine ⟨by rw [sz, enc_length]; omega, h2, by rw [h1]; exact hx, by rw [h1]⟩
theorem enc_injS (f d : Int) (x y : Seg) (hx : x.ok) (hy : y.ok) (h : x.enc f d = y.enc f d) : x = y := by
  rw [← (dec_enc f d x hx).1, h, (dec_enc f d y hy).1]
/-- the sum over what Decode takes -/
theorem decOk_sum (f d : Int) (t : ByteArray) (h : decOk f d t) : ws (pseudo f d t.size ++ t.data.toList) % 65535 = 0 := by
  have h1 := h.2.2.2
  have h2 := enc_sum f d (dec t)
  have hl : (t.data.toList).length = t.size := rfl
  rw [h1, hl] at h2
  exact h2
/-- one byte changed -/
theorem flip_no (f d : Int) (R : List UInt8) (h : decOk f d ⟨R.toArray⟩) (k : Nat) (hk : k < R.length) (v : UInt8) (hv : v ≠ R[k]) : ¬ decOk f d ⟨(R.set k v).toArray⟩ := by
  intro h'
  have h1 := decOk_sum _ _ _ h
  have h2 := decOk_sum _ _ _ h'
  rw [sz] at h1 h2
  rw [List.length_set] at h2
  rw [ws_append _ _ (by rw [pseudo_length])] at h1 h2
  change (_ + ws (R.set k v)) % 65535 = 0 at h2
  change (_ + ws R) % 65535 = 0 at h1
  rw [ws_set _ _ _ hk] at h2
  have hb1 := u8_bd v
  have hb2 := u8_bd R[k]
  have hne : (v.toNat : Int) ≠ (R[k].toNat : Int) := fun q => hv (UInt8.toNat_inj.1 (Int.ofNat_inj.1 q))
  split at h2 <;> omega
theorem ws_be4 (n : Int) (h0 : 0 ≤ n) (h1 : n < 4294967296) : ws (be 4 n) = n / 65536 + n % 65536 := by
  have e : be 4 n = [byte (n / 256 / 256 / 256), byte (n / 256 / 256), byte (n / 256), byte n] := by simp [be]
  rw [e]
  simp only [ws, byte_toNat]
  omega
/-- another address -/
theorem addr_bad (f f' d : Int) (t : ByteArray) (h : decOk f d t) (hf : Adr f) (hf' : Adr f') (hne : (f - f') % 65535 ≠ 0) : ¬ decOk f' d t := by
  intro h'
  have h1 := decOk_sum _ _ _ h
  have h2 := decOk_sum _ _ _ h'
  unfold Adr at hf hf'
  rw [ws_append _ _ (by rw [pseudo_length])] at h1 h2
  have e : ∀ x : Int, pseudo x d t.size = be 4 x ++ (be 4 d ++ bes 2 [6, (t.size : Int)]) := fun x => by simp [pseudo, bes]
  rw [e, ws_append _ _ (by rw [be_length]), ws_be4 _ (by omega) (by omega)] at h1 h2
  omega
end Go.Proofs.YtmgjcjacoegocaaDoor.Sg
