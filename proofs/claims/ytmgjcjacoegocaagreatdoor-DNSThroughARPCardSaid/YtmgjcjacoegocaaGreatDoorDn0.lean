/-
  Names and messages of the name service as plain data: labels, validity, encoding, and the reading of an encoding.
-/
import Derived.Test.YtmgjcjacoegocaaGreatDoorPlain
namespace Go.Proofs.YtmgjcjacoegocaaGreatDoor.Dn
set_option maxRecDepth 100000
open Go.RowKit Go.Proofs.YtmgjcjacoegocaaGreatDoor.Wire

/-- the parts of a string between its dots -/
def labelsOf : List UInt8 → List (List UInt8)
  | [] => [[]]
  | c :: r => if c = 46 then [] :: labelsOf r else match labelsOf r with
    | h :: t => (c :: h) :: t
    | [] => [[c]]
theorem labelsOf_ne (l : List UInt8) : labelsOf l ≠ [] := by
  cases l with
  | nil => simp [labelsOf]
  | cons c r =>
    unfold labelsOf
    split
    · simp
    · cases labelsOf r <;> simp
theorem labelsOf_dot (r : List UInt8) : labelsOf (46 :: r) = [] :: labelsOf r := by rw [labelsOf, if_pos rfl]
theorem labelsOf_cons (c : UInt8) (r h : List UInt8) (t : List (List UInt8)) (hc : c ≠ 46) (e : labelsOf r = h :: t) : labelsOf (c :: r) = (c :: h) :: t := by rw [labelsOf, if_neg hc, e]
theorem labelsOf_append : ∀ (a b : List UInt8), labelsOf (a ++ 46 :: b) = labelsOf a ++ labelsOf b
  | [], b => by rw [List.nil_append, labelsOf_dot]; rfl
  | c :: a, b => by
    have ih := labelsOf_append a b
    by_cases hc : c = 46
    · subst hc; rw [List.cons_append, labelsOf_dot, labelsOf_dot, ih, List.cons_append]
    · obtain ⟨h, t, e⟩ := List.exists_cons_of_ne_nil (labelsOf_ne a)
      rw [List.cons_append, labelsOf_cons c _ h (t ++ labelsOf b) hc (by rw [ih, e]; rfl), labelsOf_cons c a h t hc e]; rfl
theorem labelsOf_plain : ∀ (a : List UInt8), (46 : UInt8) ∉ a → labelsOf a = [a]
  | [], _ => rfl
  | c :: a, h => labelsOf_cons c a a [] (fun e => h (by simp [e])) (labelsOf_plain a (fun q => h (List.mem_cons_of_mem _ q)))
theorem labelsOf_len : ∀ (a : List UInt8), ((labelsOf a).map List.length).sum + (labelsOf a).length = a.length + 1
  | [] => rfl
  | c :: a => by
    have ih := labelsOf_len a
    by_cases hc : c = 46
    · subst hc; rw [labelsOf_dot]; simp; omega
    · obtain ⟨h, t, e⟩ := List.exists_cons_of_ne_nil (labelsOf_ne a)
      rw [labelsOf_cons c a h t hc e]
      rw [e] at ih
      simp at ih ⊢; omega
/-- the parts joined by dots -/
def joinD : List (List UInt8) → List UInt8
  | [] => []
  | [a] => a
  | a :: b :: t => a ++ 46 :: joinD (b :: t)
theorem joinD_cons (a : List UInt8) (t : List (List UInt8)) (h : t ≠ []) : joinD (a :: t) = a ++ 46 :: joinD t := by
  cases t with
  | nil => exact absurd rfl h
  | cons b t => rfl
theorem join_labels : ∀ a : List UInt8, joinD (labelsOf a) = a
  | [] => rfl
  | c :: a => by
    have ih := join_labels a
    by_cases hc : c = 46
    · subst hc; rw [labelsOf_dot, joinD_cons _ _ (labelsOf_ne a), ih]; rfl
    · obtain ⟨h, t, e⟩ := List.exists_cons_of_ne_nil (labelsOf_ne a)
      rw [labelsOf_cons c a h t hc e]
      rw [e] at ih
      cases t with
      | nil => simpa [joinD] using ih
      | cons b t => rw [joinD_cons _ _ (by simp), List.cons_append, ← joinD_cons _ _ (by simp), ih]
def inLab (b : UInt8) : Bool := (decide (97 ≤ b.toNat) && decide (b.toNat ≤ 122)) || (decide (48 ≤ b.toNat) && decide (b.toNat ≤ 57)) || decide (b = 45)
def labB (l : List UInt8) : Bool := decide (1 ≤ l.length) && decide (l.length ≤ 20) && !decide (l.head? = some 45) && !decide (l.getLast? = some 45) && l.all inLab
/-- is the string a valid name? -/
def nameB (l : List UInt8) : Bool := decide (l.length ≤ 60) && (labelsOf l).all labB
theorem name_join (a b : List UInt8) : nameB (a ++ 46 :: b) = (nameB a && nameB b && decide ((a ++ 46 :: b).length ≤ 60)) := by
  unfold nameB
  rw [labelsOf_append, List.all_append, Bool.eq_iff_iff]
  simp only [Bool.and_eq_true, decide_eq_true_eq, List.length_append, List.length_cons]
  constructor
  · rintro ⟨h1, h2, h3⟩; exact ⟨⟨⟨by omega, h2⟩, by omega, h3⟩, h1⟩
  · rintro ⟨⟨⟨h1, h2⟩, h3, h4⟩, h5⟩; exact ⟨h5, h2, h4⟩

structure Rec where
  nm : List UInt8
  kd : Int
  ttl : Int
  addr : Int
  dst : List UInt8
  deriving DecidableEq
structure Msg where
  id : Int
  ans : Bool
  code : Int
  nm : List UInt8
  kd : Int
  recs : List Rec
  deriving DecidableEq
def recB (r : Rec) : Bool := nameB r.nm && decide (0 ≤ r.ttl) && decide (r.ttl ≤ 1000) && ((decide (r.kd = 1) && decide (0 ≤ r.addr) && decide (r.addr ≤ 4294967295) && decide (r.dst = [])) || (decide (r.kd = 2) && nameB r.dst && decide (r.addr = 0)))
/-- is the message valid? -/
def msgB (d : Msg) : Bool := decide (0 ≤ d.id) && decide (d.id ≤ 65535) && decide (0 ≤ d.code) && decide (d.code ≤ 2) && nameB d.nm && (decide (d.kd = 1) || decide (d.kd = 2)) && decide (d.recs.length ≤ 8) && d.recs.all recB && (d.ans || (decide (d.code = 0) && decide (d.recs.length = 0)))

def encLabs (L : List (List UInt8)) : List UInt8 := L.flatMap fun l => be 1 l.length ++ l
def encName (s : List UInt8) : List UInt8 := encLabs (labelsOf s) ++ be 1 0
def encRec (r : Rec) : List UInt8 := encName r.nm ++ (be 1 r.kd ++ (be 2 r.ttl ++ (if r.kd = 2 then encName r.dst else be 4 r.addr)))
def ansN (b : Bool) : Int := if b then 1 else 0
/-- the encoding of a message -/
def enc (d : Msg) : List UInt8 := be 2 d.id ++ (be 1 (ansN d.ans) ++ (be 1 d.code ++ (be 1 d.kd ++ (encName d.nm ++ (be 1 d.recs.length ++ d.recs.flatMap encRec)))))
theorem encLabs_len (L : List (List UInt8)) : (encLabs L).length = (L.map List.length).sum + L.length := by
  induction L with
  | nil => rfl
  | cons a L ih =>
    have e : encLabs (a :: L) = be 1 a.length ++ a ++ encLabs L := rfl
    rw [e, List.length_append, List.length_append, be_length, ih]; simp; omega
theorem encName_len (s : List UInt8) : (encName s).length = s.length + 2 := by
  unfold encName
  rw [List.length_append, encLabs_len, labelsOf_len, be_length]
theorem name_len {s : List UInt8} (h : nameB s = true) : s.length ≤ 60 := by
  unfold nameB at h
  simp only [Bool.and_eq_true, decide_eq_true_eq] at h
  exact h.1
theorem encRec_len (r : Rec) (h : recB r = true) : (encRec r).length ≤ 127 := by
  unfold recB at h
  simp only [Bool.and_eq_true, Bool.or_eq_true, decide_eq_true_eq] at h
  have h1 := name_len h.1.1.1
  unfold encRec
  rw [List.length_append, List.length_append, List.length_append, encName_len, be_length, be_length]
  split
  · rename_i c
    rcases h.2 with q | q
    · omega
    · have := name_len q.1.2
      rw [encName_len]; omega
  · rw [be_length]; omega
theorem recs_len : ∀ (l : List Rec), l.all recB = true → (l.flatMap encRec).length ≤ 127 * l.length
  | [], _ => by simp
  | r :: l, h => by
    rw [List.all_cons, Bool.and_eq_true] at h
    have := recs_len l h.2
    have := encRec_len r h.1
    rw [List.flatMap_cons, List.length_append, List.length_cons]; omega
theorem enc_len (d : Msg) (h : msgB d = true) : 8 ≤ (enc d).length ∧ (enc d).length ≤ 1100 := by
  unfold msgB at h
  simp only [Bool.and_eq_true, decide_eq_true_eq] at h
  have h1 := name_len h.1.1.1.1.2
  have h2 := recs_len d.recs h.1.2
  unfold enc
  simp only [List.length_append, be_length, encName_len]
  omega

/-- reading: a number of k bytes -/
def rdNum (k : Nat) (l : List UInt8) : Option (Int × List UInt8) := if l.length < k then none else some (num (l.take k), l.drop k)
theorem rdNum_be (k : Nat) (n : Int) (r : List UInt8) (h0 : 0 ≤ n) (h1 : n < 256 ^ k) : rdNum k (be k n ++ r) = some (n, r) := by
  unfold rdNum
  rw [if_neg (by rw [List.length_append, be_length]; omega), List.take_append_of_le_length (by rw [be_length]; exact Nat.le_refl _), List.take_of_length_le (by rw [be_length]; exact Nat.le_refl _), num_be k n h0 h1, List.drop_append, List.drop_eq_nil_of_le (by rw [be_length]; exact Nat.le_refl _), be_length, Nat.sub_self]
  rfl
/-- reading: labels up to the zero byte; m bounds the number of labels -/
def rdName : Nat → List UInt8 → List UInt8 → Option (List UInt8 × List UInt8)
  | 0, _, _ => none
  | m + 1, acc, l => match l with
    | [] => none
    | b :: r => if b.toNat = 0 then some (acc, r) else if 20 < b.toNat ∨ r.length < b.toNat ∨ 60 < acc.length + b.toNat then none else
      rdName m ((if acc.length = 0 then [] else acc ++ [46]) ++ r.take b.toNat) (r.drop b.toNat)
theorem labB_len {l : List UInt8} (h : labB l = true) : 1 ≤ l.length ∧ l.length ≤ 20 := by
  unfold labB at h
  simp only [Bool.and_eq_true, decide_eq_true_eq] at h
  exact ⟨h.1.1.1.1, h.1.1.1.2⟩
theorem be1 (n : Nat) (h : n < 256) : be 1 (n : Int) = [UInt8.ofNat n] := by
  simp only [be, byte, List.nil_append]
  have : (((n : Int)) % 256).toNat = n := by omega
  rw [this]
theorem be1_toNat (n : Nat) (h : n < 256) : (UInt8.ofNat n).toNat = n := by
  rw [UInt8.toNat_ofNat', Nat.mod_eq_of_lt h]
theorem joinD_len (L : List (List UInt8)) : (joinD L).length + 1 = (L.map List.length).sum + L.length + (if L = [] then 1 else 0) := by
  induction L with
  | nil => rfl
  | cons a t ih =>
    by_cases h : t = []
    · subst h; simp [joinD]
    · rw [if_neg h] at ih
      rw [joinD_cons a t h, if_neg (by simp)]
      simp; omega
theorem rdName_labs : ∀ (L : List (List UInt8)) (m : Nat) (acc r : List UInt8), L.length < m → (∀ l ∈ L, labB l = true) → acc.length ≠ 0 → acc.length + (L.map List.length).sum + L.length ≤ 60 →
    rdName m acc (encLabs L ++ be 1 0 ++ r) = some (acc ++ (L.flatMap fun l => 46 :: l), r)
  | [], m, acc, r, hm, _, _, _ => by
    obtain ⟨m, rfl⟩ : ∃ k, m = k + 1 := ⟨m - 1, by simp at hm; omega⟩
    show rdName (m + 1) acc (be 1 ((0 : Nat) : Int) ++ r) = _
    rw [be1 0 (by omega)]
    simp [rdName]
  | a :: L, m, acc, r, hm, hL, hacc, hs => by
    obtain ⟨m, rfl⟩ : ∃ k, m = k + 1 := ⟨m - 1, by simp at hm; omega⟩
    obtain ⟨h1, h20⟩ := labB_len (hL a (List.mem_cons_self ..))
    simp only [List.map_cons, List.sum_cons, List.length_cons] at hs hm
    have e : encLabs (a :: L) ++ be 1 0 ++ r = UInt8.ofNat a.length :: (a ++ (encLabs L ++ be 1 0 ++ r)) := by
      have : encLabs (a :: L) = be 1 a.length ++ a ++ encLabs L := rfl
      rw [this, be1 _ (by omega)]; simp
    have hb := be1_toNat a.length (by omega)
    rw [e, rdName, hb, if_neg (by omega), if_neg (by simp only [List.length_append]; omega), if_neg hacc, List.take_append_of_le_length (Nat.le_refl _), List.take_length, List.drop_append, List.drop_length, Nat.sub_self, List.nil_append, List.drop_zero]
    rw [rdName_labs L m _ r (by omega) (fun l hl => hL l (List.mem_cons_of_mem _ hl)) (by simp) (by simp; omega)]
    simp
theorem joinD_flat (a : List UInt8) (L : List (List UInt8)) : joinD (a :: L) = a ++ L.flatMap fun l => 46 :: l := by
  induction L generalizing a with
  | nil => simp [joinD]
  | cons b L ih => rw [joinD_cons _ _ (by simp), ih b]; simp
/-- a name is read back from its encoding -/
theorem rdName_enc (s r : List UInt8) (m : Nat) (hm : 62 ≤ m) (h : nameB s = true) : rdName m [] (encName s ++ r) = some (s, r) := by
  have hl := name_len h
  have hlen := labelsOf_len s
  have hj := join_labels s
  unfold nameB at h
  rw [Bool.and_eq_true] at h
  have hall := List.all_eq_true.1 h.2
  unfold encName
  obtain ⟨a, L, e⟩ := List.exists_cons_of_ne_nil (labelsOf_ne s)
  rw [e] at hall hlen hj ⊢
  obtain ⟨m, rfl⟩ : ∃ k, m = k + 1 := ⟨m - 1, by omega⟩
  obtain ⟨h1, h20⟩ := labB_len (hall a (List.mem_cons_self ..))
  simp only [List.map_cons, List.sum_cons, List.length_cons] at hlen
  have e : encLabs (a :: L) ++ be 1 0 ++ r = UInt8.ofNat a.length :: (a ++ (encLabs L ++ be 1 0 ++ r)) := by
    have : encLabs (a :: L) = be 1 a.length ++ a ++ encLabs L := rfl
    rw [this, be1 _ (by omega)]; simp
  have hb := be1_toNat a.length (by omega)
  rw [e, rdName, hb, if_neg (by omega), if_neg (by simp only [List.length_append, List.length_nil]; omega), show (if ([] : List UInt8).length = 0 then ([] : List UInt8) else [] ++ [46]) = [] from rfl, List.nil_append, List.take_append_of_le_length (Nat.le_refl _), List.take_length, List.drop_append, List.drop_length, Nat.sub_self, List.nil_append, List.drop_zero]
  rw [rdName_labs L m _ r (by omega) (fun l hl => hall l (List.mem_cons_of_mem _ hl)) (by omega) (by omega), ← joinD_flat, hj]
end Go.Proofs.YtmgjcjacoegocaaGreatDoor.Dn
