/-
  Messages of the name service as plain data: an encoding is read back; no encoding begins another.
-/
import Derived.Test.YtmgjcjacoegocaaGreatDoorDn0
namespace Go.Proofs.YtmgjcjacoegocaaGreatDoor.Dn
set_option maxRecDepth 100000
open Go.RowKit Go.Proofs.YtmgjcjacoegocaaGreatDoor.Wire

def rdRec (l : List UInt8) : Option (Rec × List UInt8) :=
  (rdName 62 [] l).bind fun (nm, l1) => (rdNum 1 l1).bind fun (kd, l2) => (rdNum 2 l2).bind fun (ttl, l3) =>
    if kd = 2 then (rdName 62 [] l3).bind fun (dst, l4) => some (⟨nm, kd, ttl, 0, dst⟩, l4)
    else (rdNum 4 l3).bind fun (addr, l4) => some (⟨nm, kd, ttl, addr, []⟩, l4)
def rdRecs : Nat → List Rec → List UInt8 → Option (List Rec × List UInt8)
  | 0, acc, l => some (acc, l)
  | n + 1, acc, l => (rdRec l).bind fun (r, l1) => rdRecs n (acc ++ [r]) l1
def rdMsg (l : List UInt8) : Option (Msg × List UInt8) :=
  (rdNum 2 l).bind fun (id, l1) => (rdNum 1 l1).bind fun (an, l2) => (rdNum 1 l2).bind fun (code, l3) => (rdNum 1 l3).bind fun (kd, l4) =>
    (rdName 62 [] l4).bind fun (nm, l5) => (rdNum 1 l5).bind fun (n, l6) => if 8 < n then none else
      (rdRecs n.toNat [] l6).bind fun (rs, l7) => some (⟨id, decide (an = 1), code, nm, kd, rs⟩, l7)
theorem rdRec_enc (r : Rec) (l : List UInt8) (h : recB r = true) : rdRec (encRec r ++ l) = some (r, l) := by
  unfold recB at h
  simp only [Bool.and_eq_true, Bool.or_eq_true, decide_eq_true_eq] at h
  obtain ⟨⟨⟨hn, h0⟩, h1⟩, hk⟩ := h
  unfold rdRec encRec
  rw [List.append_assoc, rdName_enc _ _ _ (by omega) hn, Option.bind_some]
  dsimp only
  obtain ⟨nm, kd, ttl, addr, dst⟩ := r
  dsimp only at *
  rcases hk with ⟨⟨⟨hk, ha⟩, hb⟩, hd⟩ | ⟨⟨hk, hd⟩, ha⟩
  · subst hk; subst hd
    rw [List.append_assoc, rdNum_be 1 1 _ (by omega) (by omega), Option.bind_some]
    dsimp only
    rw [List.append_assoc, rdNum_be 2 ttl _ (by omega) (by omega), Option.bind_some]
    dsimp only
    rw [if_neg (by omega), if_neg (by omega), rdNum_be 4 addr _ (by omega) (by omega)]
    rfl
  · subst hk; subst ha
    rw [List.append_assoc, rdNum_be 1 2 _ (by omega) (by omega), Option.bind_some]
    dsimp only
    rw [List.append_assoc, rdNum_be 2 ttl _ (by omega) (by omega), Option.bind_some]
    dsimp only
    rw [if_pos rfl, if_pos rfl, rdName_enc _ _ _ (by omega) hd]
    rfl
theorem rdRecs_enc : ∀ (L acc : List Rec) (l : List UInt8), L.all recB = true → rdRecs L.length acc (L.flatMap encRec ++ l) = some (acc ++ L, l)
  | [], acc, l, _ => by simp [rdRecs]
  | r :: L, acc, l, h => by
    rw [List.all_cons, Bool.and_eq_true] at h
    rw [List.length_cons, rdRecs, List.flatMap_cons, List.append_assoc, rdRec_enc r _ h.1, Option.bind_some]
    dsimp only
    rw [rdRecs_enc L _ l h.2]; simp
/-- a message is read back from its encoding, whatever follows -/
theorem rdMsg_enc (d : Msg) (l : List UInt8) (h : msgB d = true) : rdMsg (enc d ++ l) = some (d, l) := by
  unfold msgB at h
  simp only [Bool.and_eq_true, Bool.or_eq_true, decide_eq_true_eq] at h
  obtain ⟨⟨⟨⟨⟨⟨⟨⟨h1, h2⟩, h3⟩, h4⟩, h5⟩, h6⟩, h7⟩, h8⟩, -⟩ := h
  unfold rdMsg enc
  rw [List.append_assoc, rdNum_be 2 _ _ (by omega) (by omega), Option.bind_some]
  dsimp only
  rw [List.append_assoc, rdNum_be 1 _ _ (by unfold ansN; split <;> omega) (by unfold ansN; split <;> omega), Option.bind_some]
  dsimp only
  rw [List.append_assoc, rdNum_be 1 _ _ (by omega) (by omega), Option.bind_some]
  dsimp only
  rw [List.append_assoc, rdNum_be 1 _ _ (by omega) (by omega), Option.bind_some]
  dsimp only
  rw [List.append_assoc, rdName_enc _ _ _ (by omega) h5, Option.bind_some]
  dsimp only
  rw [List.append_assoc, rdNum_be 1 _ _ (by omega) (by omega), Option.bind_some]
  dsimp only
  rw [if_neg (by omega), Int.toNat_natCast, rdRecs_enc _ _ _ h8, Option.bind_some]
  have : decide (ansN d.ans = 1) = d.ans := by unfold ansN; cases d.ans <;> rfl
  rw [this, List.nil_append]
theorem enc_inj (d e : Msg) (hd : msgB d = true) (he : msgB e = true) (h : enc d = enc e) : d = e := by
  have h1 := rdMsg_enc d [] hd
  have h2 := rdMsg_enc e [] he
  rw [h, h2] at h1
  simpa using h1.symm
/-- no encoding begins another -/
theorem enc_begin (d e : Msg) (l : List UInt8) (hd : msgB d = true) (he : msgB e = true) (h : enc d ++ l = enc e) : l = [] := by
  have h1 := rdMsg_enc d l hd
  have h2 := rdMsg_enc e [] he
  rw [List.append_nil, ← h, h1] at h2
  simp at h2
  exact h2.2
/-- the message that a string encodes -/
def decD (s : List UInt8) : Option Msg := match rdMsg s with
  | none => none
  | some (d, _) => if msgB d = true ∧ enc d = s then some d else none
theorem decD_iff (s : List UInt8) (d : Msg) : decD s = some d ↔ (msgB d = true ∧ enc d = s) := by
  unfold decD
  constructor
  · intro h
    split at h
    · cases h
    · split at h
      · rename_i hc; cases h; exact hc
      · cases h
  · rintro ⟨h1, rfl⟩
    have := rdMsg_enc d [] h1
    rw [List.append_nil] at this
    rw [this]
    simp [h1]
theorem decD_none (s : List UInt8) (h : ∀ d, msgB d = true → enc d ≠ s) : decD s = none := by
  cases e : decD s with
  | none => rfl
  | some d => exact absurd ((decD_iff s d).1 e).2 (h d ((decD_iff s d).1 e).1)
theorem decD_enc (d : Msg) (h : msgB d = true) : decD (enc d) = some d := (decD_iff _ _).2 ⟨h, rfl⟩
theorem decD_cut (d : Msg) (h : msgB d = true) (k : Nat) (hk : k < (enc d).length) : decD ((enc d).take k) = none :=
  decD_none _ fun e he q => by
    have h1 := enc_begin e d ((enc d).drop k) he h (by rw [q, List.take_append_drop])
    have h2 := congrArg List.length h1
    rw [List.length_drop] at h2
    simp at h2; omega
theorem decD_more (d : Msg) (h : msgB d = true) (b : UInt8) (r : List UInt8) : decD (enc d ++ b :: r) = none :=
  decD_none _ fun e he q => by
    have := enc_begin d e (b :: r) h he q.symm
    cases this
end Go.Proofs.YtmgjcjacoegocaaGreatDoor.Dn
