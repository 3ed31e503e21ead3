/-
  What the law ARPRequestReply runs through, as plain data.
-/
import Derived.Test.YtmgjcjacoegocaaDoorArMany
import Derived.Test.YtmgjcjacoegocaaDoorArEnc
import Derived.Test.YtmgjcjacoegocaaDoorArShort
import Derived.Test.YtmgjcjacoegocaaDoorPlain
namespace Go.Proofs.YtmgjcjacoegocaaDoor.Ar
set_option maxRecDepth 100000
open Go.RowKit Go.Proofs.YtmgjcjacoegocaaDoor.Wire

/-- the packets of the first k calls -/
def heldK (tl : List ByteArray) (k : Nat) : List ByteArray := (tl.take k).map shortS
/-- the table after k calls of Send -/
def tabK (two : Int) (tl : List ByteArray) (k : Nat) : AL := if k = 0 then [] else [(two, .inc (heldK tl k) 1 0 0)]
def saidK (one two : Int) (k : Nat) : List Am := if k = 0 then [] else [⟨1, one, 3, two, 0⟩]
theorem short_le (s : ByteArray) : (shortS s).size ≤ 20 := by unfold shortS; rw [ByteArray.size_extract]; omega
theorem look_single (k : Int) (v : Ev) : look [(k, v)] k = some v := by simp [look]
theorem upd_single (k : Int) (v v' : Ev) : upd [(k, v)] k v' = [(k, v')] := by simp [upd]
theorem send_k (one two : Int) (h1 : 1 ≤ one ∧ one ≤ 50) (h2 : 60 ≤ two ∧ two ≤ 109) (tl : List ByteArray) (k : Nat) (s : ByteArray) (hs : tl[k]? = some s) (hk : k < 4) :
    sendF ⟨one, 3, false, 0⟩ (tabK two tl k) (k : Int) two (shortS s) = (tabK two tl (k + 1), 0, (if k = 0 then [⟨1, one, 3, two, 0⟩] else []), 0) := by
  have ht : (tl.take (k + 1)).map shortS = (tl.take k).map shortS ++ [shortS s] := by rw [List.take_add_one, hs]; simp
  unfold sendF
  rw [if_neg]
  · unfold tabK
    by_cases h0 : k = 0
    · subst h0
      rw [if_pos rfl, if_neg (by omega), if_pos rfl]
      show (roomA [] ++ [(two, Ev.inc [shortS s] 1 ((0 : Nat) : Int) ((0 : Nat) : Int))], (0 : Int), [req ⟨one, 3, false, 0⟩ two], (0 : Int)) = _
      unfold heldK
      rw [ht]; rfl
    · rw [if_neg h0, if_neg (by omega), if_neg h0, look_single]
      dsimp only
      rw [upd_single]
      have h4 : last4 (heldK tl k ++ [shortS s]) = heldK tl (k + 1) := by
        unfold last4
        have hl := List.length_take (i := k) (l := tl)
        rw [if_neg (by unfold heldK; rw [List.length_append, List.length_map]; simp; omega)]
        unfold heldK; exact ht.symm
      rw [h4]
  · have := short_le s
    rintro (q | q | q)
    · unfold uniB at q; rw [decide_eq_false_iff_not] at q; omega
    · dsimp only at q; omega
    · omega
theorem tick_k (one two : Int) (hl : List ByteArray) (j : Nat) (hj : j < 2) :
    tickA ⟨one, 3, false, 0⟩ [(two, .inc hl (1 + (j : Int)) 0 (10 * (j : Int)))] (10 * ((j : Int) + 1)) = ([(two, .inc hl (1 + ((j + 1 : Nat) : Int)) 0 (10 * ((j + 1 : Nat) : Int)))], [⟨1, one, 3, two, 0⟩], []) := by
  have ho : ordA [(two, .inc hl (1 + (j : Int)) 0 (10 * (j : Int)))] = [(two, .inc hl (1 + (j : Int)) 0 (10 * (j : Int)))] := by
    unfold ordA; simp [look]
  have hag : agedB (10 * ((j : Int) + 1)) (10 * (j : Int)) 10 = true := by unfold agedB; exact decide_eq_true (by omega)
  have h3 : 1 + (j : Int) < 3 := by omega
  unfold tickA
  rw [ho]
  have e1 : (1 + (j : Int)) + 1 = 1 + ((j + 1 : Nat) : Int) := by omega
  have e2 : (10 : Int) * ((j : Int) + 1) = 10 * ((j + 1 : Nat) : Int) := by omega
  simp [tick1, tickM, tickH, hag, h3, req, e1]
theorem recv_third (one two third mo : Int) (h1 : 1 ≤ one ∧ one ≤ 50) (h2 : 60 ≤ two ∧ two ≤ 109) (h3 : 200 ≤ third) : recvA ⟨third, mo, false, 0⟩ [] 5 ⟨1, one, 3, two, 0⟩ = (⟨third, mo, false, 0⟩, [], [], []) := by
  have hok : (⟨1, one, 3, two, 0⟩ : Am).ok := by unfold Am.ok; dsimp only; omega
  unfold recvA
  rw [if_neg (fun q => q hok), if_neg (by dsimp only; omega), if_pos (by dsimp only; omega)]
theorem recv_two (one two m : Int) (h1 : 1 ≤ one ∧ one ≤ 50) (h2 : 60 ≤ two ∧ two ≤ 109) : recvA ⟨two, m, false, 0⟩ [] 5 ⟨1, one, 3, two, 0⟩ = (⟨two, m, false, 0⟩, [], [⟨2, two, m, one, 3⟩], []) := by
  have hok : (⟨1, one, 3, two, 0⟩ : Am).ok := by unfold Am.ok; dsimp only; omega
  unfold recvA
  rw [if_neg (fun q => q hok), if_neg (by dsimp only; omega), if_neg (by simp)]
  simp [look]
theorem recv_one (one two m : Int) (hl : List ByteArray) (a b c : Int) (h1 : 1 ≤ one ∧ one ≤ 50) (h2 : 60 ≤ two ∧ two ≤ 109) (h3 : 100 ≤ m ∧ m ≤ 199) : recvA ⟨one, 3, false, 0⟩ [(two, .inc hl a b c)] 31 ⟨2, two, m, one, 3⟩ = (⟨one, 3, false, 0⟩, [(two, .res m 31 31)], [], hl.map fun s => ⟨two, m, s⟩) := by
  have hok : (⟨2, two, m, one, 3⟩ : Am).ok := by unfold Am.ok; dsimp only; omega
  unfold recvA
  rw [if_neg (fun q => q hok), if_neg (by dsimp only; omega), if_neg (by simp)]
  dsimp only
  rw [look_single]
  simp [upd_single]
/-- Decode inverts Encode -/
theorem msg_enc (a : Am) (h : a.ok) : msgOf ⟨(encM a).toArray⟩ = a := by
  obtain ⟨op, f, fm, t, tm⟩ := a
  unfold Am.ok at h
  dsimp only at h
  have b1 : bytesAt ⟨(encM ⟨op, f, fm, t, tm⟩).toArray⟩ 0 1 = be 1 op := by
    unfold bytesAt encM
    simp only [List.drop_zero]
    rw [List.append_assoc, List.append_assoc, List.append_assoc, List.take_left' (be_length 1 op)]
  have b2 : bytesAt ⟨(encM ⟨op, f, fm, t, tm⟩).toArray⟩ 1 4 = be 4 f := by
    unfold bytesAt encM
    dsimp only
    rw [List.append_assoc, List.append_assoc, List.append_assoc, List.drop_left' (be_length 1 op), List.take_left' (be_length 4 f)]
  have b3 : bytesAt ⟨(encM ⟨op, f, fm, t, tm⟩).toArray⟩ 5 2 = be 2 fm := by
    unfold bytesAt encM
    dsimp only
    rw [List.append_assoc, List.append_assoc, List.drop_left' (by simp [be_length]), List.take_left' (be_length 2 fm)]
  have b4 : bytesAt ⟨(encM ⟨op, f, fm, t, tm⟩).toArray⟩ 7 4 = be 4 t := by
    unfold bytesAt encM
    dsimp only
    rw [List.append_assoc, List.drop_left' (by simp [be_length]), List.take_left' (be_length 4 t)]
  have b5 : bytesAt ⟨(encM ⟨op, f, fm, t, tm⟩).toArray⟩ 11 2 = be 2 tm := by
    unfold bytesAt encM
    dsimp only
    rw [List.drop_left' (by simp [be_length]), List.take_of_length_le (by simp [be_length])]
  unfold msgOf
  rw [b1, b2, b3, b4, b5, num_be 1 op (by omega) (by omega), num_be 4 f (by omega) (by omega), num_be 2 fm (by omega) (by omega), num_be 4 t (by omega) (by omega), num_be 2 tm (by omega) (by omega)]
theorem dec_enc (a : Am) (h : a.ok) : decR ⟨(encM a).toArray⟩ = .tuple #[.agg #[.int .i64 a.op, .int .i64 a.f, .int .i64 a.fm, .int .i64 a.t, .int .i64 a.tm], .int .i64 0] := by
  have hm := msg_enc a h
  unfold decR
  rw [if_pos ⟨by show (encM a).toArray.size = 13; simp [encM_len], by rw [hm]; exact (Am.okB_iff a).2 h⟩]
  have e : ∀ b : Am, b = a → (Value.tuple #[.agg #[.int .i64 b.op, .int .i64 b.f, .int .i64 b.fm, .int .i64 b.t, .int .i64 b.tm], .int .i64 0] : Value) = .tuple #[.agg #[.int .i64 a.op, .int .i64 a.f, .int .i64 a.fm, .int .i64 a.t, .int .i64 a.tm], .int .i64 0] := by rintro b rfl; rfl
  exact e _ hm
end Go.Proofs.YtmgjcjacoegocaaDoor.Ar
