/-
  sane of chapter 6 returns true; contracts of Encode by datagrams; the cells of a row of datagrams.
-/
import Derived.Test.YtpiohahfdekmhaaDoorLaw06s
import Derived.Test.YtpiohahfdekmhaaDoorLaw06b
namespace Go.Proofs.YtpiohahfdekmhaaDoor.Ip
set_option maxRecDepth 100000
open Go.RowKit Go.Proofs.YtpiohahfdekmhaaDoor.Wire Go.Proofs.YtpiohahfdekmhaaDoor.Gen

theorem Encode_pk (p : Pk) (w : World) (h : p.ok) : Calls Tryd.prog 6 #[p.val] w fun e w' => e = .returned (.tuple #[.string ⟨(encP p).toArray⟩, .int .i64 0]) ∧ Below w.heap.size w w' :=
  Encode_ok p.f p.t p.pr p.ttl p.id p.df p.mf p.off p.s w h
theorem pkCells_get : ∀ (l : List Pk) (i j : Nat) (p : Pk), l[i]? = some p → j < 9 → (pkCells l)[i * 9 + j]? = p.cells[j]?
  | [], i, j, p, h, _ => by simp at h
  | x :: r, 0, j, p, h, hj => by
    simp only [List.getElem?_cons_zero, Option.some.injEq] at h
    subst h
    have : pkCells (x :: r) = x.cells ++ pkCells r := by simp [pkCells]
    rw [this, Nat.zero_mul, Nat.zero_add, List.getElem?_append_left (by simp [Pk.cells]; omega)]
  | x :: r, i + 1, j, p, h, hj => by
    have : pkCells (x :: r) = x.cells ++ pkCells r := by simp [pkCells]
    have hl : x.cells.length = 9 := rfl
    rw [this, List.getElem?_append_right (by rw [hl]; omega), hl, show (i + 1) * 9 + j - 9 = i * 9 + j from by omega]
    exact pkCells_get r i j p (by simpa using h) hj
/-- the cells of a row of datagrams -/
theorem row_pk {W : World} {base : Nat} {v : Value} {l : List Pk} (h : W.ownsRow base 26 9 v l.length (pkCells l)) (hl : 0 < l.length) :
    ∃ g cap, v = .slice (some ⟨g, 0, none⟩) l.length cap ∧ base ≤ g ∧ ∀ (i : Nat) (p : Pk), l[i]? = some p → ∀ j, j < 9 → W.cell? ⟨g, i * 9 + j, none⟩ = p.cells[j]? := by
  rcases h.2 with ⟨-, h0⟩ | ⟨g, cap, cur, hv, hb, -⟩
  · omega
  · refine ⟨g, cap, hv, hb, fun i p hp j hj => ?_⟩
    have hi : i < l.length := by
      rcases Nat.lt_or_ge i l.length with c | c
      · exact c
      · rw [List.getElem?_eq_none c] at hp; cases hp
    rw [hv] at h
    rw [h.cellAt (i * 9 + j) (by omega), pkCells_get l i j p hp hj]
/-- the datagram of the examples -/
def sPay : ByteArray := ⟨(payload ⟨#[97]⟩ 100).toArray⟩
def sPk (df : Bool) : Pk := ⟨1, 2, 17, 3, 5, df, false, 0, sPay⟩
theorem sPay_size : sPay.size = 100 := by unfold sPay; rw [sz, payload_length]
theorem sPk_ok (df : Bool) : (sPk df).ok := by
  show VLen 1 2 17 3 5 df false 0 sPay.size
  rw [sPay_size]
  cases df <;> decide
theorem sFrag : fragList (sPk false) 68 = [pieceAt (sPk false) 48 0, pieceAt (sPk false) 48 1, pieceAt (sPk false) 48 2] := by
  have h := sPk_ok false
  unfold Pk.ok at h
  unfold fragList
  rw [if_neg (by simpa using h), if_neg (by decide), if_neg (by show ¬ (20 + (sPay.size : Int) ≤ 68); rw [sPay_size]; decide), if_neg (by simp [sPk])]
  have : count (sPk false) (fragN 68) = 3 := by show (sPay.size + fragN 68 - 1) / fragN 68 = 3; rw [sPay_size]; decide
  rw [this]
  have : fragN 68 = 48 := by decide
  rw [this]; rfl
theorem sErr (df : Bool) (n : Int) (e : Int) (h : e = if n < 68 then 2 else if 120 ≤ n then 0 else if df = true then 61 else 0) : fragErr (sPk df) n = e := by
  have hk := sPk_ok df
  unfold Pk.ok at hk
  unfold fragErr
  rw [if_neg (by simpa using hk), h]
  have : 20 + ((sPk df).s.size : Int) = 120 := by show 20 + (sPay.size : Int) = 120; rw [sPay_size]; rfl
  rw [this]; rfl
theorem sOne : fragList (sPk true) 120 = [sPk true] := by
  have h := sPk_ok true
  unfold Pk.ok at h
  unfold fragList
  rw [if_neg (by simpa using h), if_neg (by decide), if_pos (by show 20 + (sPay.size : Int) ≤ 120; rw [sPay_size]; decide)]
theorem encP_take14 (p : Pk) : (encP p).take 14 = be 1 4 ++ be 4 p.f ++ be 4 p.t ++ be 1 p.pr ++ be 1 p.ttl ++ be 2 p.id ++ be 1 (flagsOf p.df p.mf) := by
  have : encP p = (be 1 4 ++ be 4 p.f ++ be 4 p.t ++ be 1 p.pr ++ be 1 p.ttl ++ be 2 p.id ++ be 1 (flagsOf p.df p.mf)) ++ (be 2 (p.off / 8) ++ be 2 (p.s.size : Int) ++ be 2 (csum ⟨(front p.f p.t p.pr p.ttl p.id p.df p.mf p.off p.s.size ++ [0, 0]).toArray⟩) ++ p.s.data.toList) := by
    simp [encP, hd, hdr, front, parts]
  rw [this, List.take_append_of_le_length (by simp [be_length]), List.take_of_length_le (by simp [be_length])]
theorem ext0 (l : List UInt8) (k : Nat) : (⟨l.toArray⟩ : ByteArray).extract 0 k = ⟨(l.take k).toArray⟩ := by
  apply ByteArray.ext
  apply Array.ext'
  rw [ByteArray.data_extract]
  simp
theorem sane_any (w : World) : Calls Tryd.prog 4 #[] w fun e w' => e = .returned (.bool true) ∧ Below w.heap.size w w' := by
  have hEl : (encP (sPk false)).length = 120 := by rw [encP_length]; show 20 + sPay.size = 120; rw [sPay_size]
  have hE : (⟨(encP (sPk false)).toArray⟩ : ByteArray).size = 120 := by rw [sz]; exact hEl
  refine sane_walk sPay ⟨(encP (sPk false)).toArray⟩ w (by rw [sPay_size]; omega) (by rw [sPay_size]; omega) (by omega) (by omega) (by rw [hE]; decide)
    (Lib.hid fun w => payload_any ⟨#[97]⟩ 100 w (by omega) (by omega) (by decide)) (Lib.hid fun w => ?_) (Lib.hid fun w => Encode_pk (sPk false) w (sPk_ok false)) (Lib.hid fun w => ?_) (Lib.hid fun w => ?_) (Lib.hid fun w => ?_) (Lib.hid fun w => ?_) (Lib.hid fun w => ?_) (Lib.hid fun w => ?_) (Lib.hid ?_)
  · refine (Fragment_any (sPk false) 68 w (by show sPay.size ≤ _; rw [sPay_size]; omega)).mono ?_
    rintro e w' ⟨v, rfl, hrow, hb⟩
    refine ⟨?_, hb⟩
    rw [sFrag] at hrow
    obtain ⟨g, cap, rfl, -, hc⟩ := row_pk hrow (by simp)
    have e0 : 0 + (48 * 1 : Nat) = (48 : Int) := rfl
    refine ⟨g, cap, sPay.extract 96 100, by rw [sErr false 68 0 rfl]; rfl, by rw [ByteArray.size_extract, sPay_size]; decide, ?_, ?_, ?_, ?_, ?_, ?_, ?_⟩
    · rw [hc 0 _ rfl 6 (by omega)]; show some (Value.bool (false || decide (48 * 0 + 48 < sPay.size))) = _; rw [sPay_size]; rfl
    · rw [hc 0 _ rfl 7 (by omega)]; rfl
    · rw [hc 1 _ rfl 6 (by omega)]; show some (Value.bool (false || decide (48 * 1 + 48 < sPay.size))) = _; rw [sPay_size]; rfl
    · rw [hc 1 _ rfl 7 (by omega)]; rfl
    · rw [hc 2 _ rfl 6 (by omega)]; show some (Value.bool (false || decide (48 * 2 + 48 < sPay.size))) = _; rw [sPay_size]; rfl
    · rw [hc 2 _ rfl 7 (by omega)]; rfl
    · rw [hc 2 _ rfl 8 (by omega)]; show some (Value.string (sPay.extract (48 * 2) (min (48 * 2 + 48) sPay.size))) = _; rw [sPay_size]; rfl
  · have := Decode_ok ⟨(encP (sPk false)).toArray⟩ w (by omega) (enc_dcOk _ (sPk_ok false))
    rwa [enc_pkOf _ (sPk_ok false)] at this
  · refine (Fragment_any (sPk false) 67 w (by show sPay.size ≤ _; rw [sPay_size]; omega)).mono ?_
    rintro e w' ⟨v, rfl, hrow, hb⟩
    exact ⟨⟨v, by rw [sErr false 67 2 rfl]⟩, hb⟩
  · refine (Fragment_any (sPk true) 119 w (by show sPay.size ≤ _; rw [sPay_size]; omega)).mono ?_
    rintro e w' ⟨v, rfl, hrow, hb⟩
    exact ⟨⟨v, by rw [sErr true 119 61 rfl]⟩, hb⟩
  · refine (Fragment_any (sPk true) 120 w (by show sPay.size ≤ _; rw [sPay_size]; omega)).mono ?_
    rintro e w' ⟨v, rfl, hrow, hb⟩
    rw [sOne] at hrow
    obtain ⟨g, cap, rfl, -, hc⟩ := row_pk hrow (by simp)
    exact ⟨⟨g, cap, by rw [sErr true 120 0 rfl]; rfl⟩, hb⟩
  · exact Decode_no ⟨#[]⟩ w (by decide) (fun h => absurd h.1.1 (by decide))
  · have h := DecodeHeader_ok ⟨((encP (sPk false)).take 28).toArray⟩ w (by rw [sz, List.length_take]; omega) (cut_dhOk _ (sPk_ok false) 28 (by omega))
    rw [cut_pkOf _ (sPk_ok false) 28 (by omega)] at h
    rw [ext0]
    have e : sPay.extract 0 8 = ⟨(sPay.data.toList.take (28 - 20)).toArray⟩ := by
      rw [ba_self sPay, ext0]
    rw [e]; exact h
  · rw [ext0, ByteArray.toList_eq, List.toList_toArray, encP_take14]
    decide
end Go.Proofs.YtpiohahfdekmhaaDoor.Ip
