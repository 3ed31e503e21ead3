/-
  The law DNSQueryResponse, with the plain law of encodings put in.
-/
import Derived.Test.YthdggmigjddneaaDnL35
namespace Go.Proofs.Ythdggmigjddneaa.Dn
open Go.RowKit Go.Proofs.Ythdggmigjddneaa.Wire Go.Proofs.Ythdggmigjddneaa.Rw

theorem be2_two (n : Int) : ∃ a b : UInt8, be 2 n = [a, b] := by
  have h := be_length 2 n
  match be 2 n, h with
  | [a, b], _ => exact ⟨a, b, rfl⟩
theorem law35_any (x : DR) (Ax : Option Addr) (nx cx : Nat) (w : World) (hx : x.ok) (hAx : RArg w Ax nx x.recs) :
    Calls Try.prog 7 #[.agg #[.int .i64 x.id, .bool x.ans, .int .i64 x.code, .int .i64 x.nm, .bool x.alias, .slice Ax nx cx]] w fun e w' => e = .returned (.bool true) ∧ Below w.heap.size w w' := by
  have ok1 := dnsOf_ok x
  have HX := Lib.hid fun W h => dnsL x Ax nx cx W hx h
  generalize dnsOf x = d1 at *
  obtain ⟨i1, n1, k1, r1, -, -⟩ := (msgB_iff d1).1 ok1
  have okB : ∀ a, msgB ⟨d1.id, a, 0, d1.nm, d1.kd, []⟩ = true := fun a => (msgB_iff _).2 ⟨⟨i1.1, i1.2.1, Int.le_refl 0, (by show (0 : Int) ≤ 2; omega)⟩, n1, k1, by simp, rfl, by simp⟩
  have hmq : msgB ⟨d1.id, false, d1.code, d1.nm, d1.kd, d1.recs⟩ = (decide (d1.code = 0) && decide (d1.recs.length = 0)) := by
    rw [Bool.eq_iff_iff, msgB_iff, Bool.and_eq_true, decide_eq_true_eq, decide_eq_true_eq]
    have := (msgB_iff d1).1 ok1
    constructor
    · rintro ⟨-, -, -, -, -, h | h⟩
      · simp at h
      · exact h
    · intro h; exact ⟨this.1, this.2.1, this.2.2.1, this.2.2.2.1, this.2.2.2.2.1, .inr h⟩
  have hff := ok_fits ok1
  have hfq : Msg.fits ⟨d1.id, false, d1.code, d1.nm, d1.kd, d1.recs⟩ := ⟨hff.1, hff.2.1, hff.2.2⟩
  obtain ⟨a, b, hab⟩ := be2_two d1.id
  have e0 : enc ⟨d1.id, false, 0, d1.nm, d1.kd, []⟩ = a :: b :: 0 :: (be 1 0 ++ (be 1 d1.kd ++ (encName d1.nm ++ be 1 0))) := by
    show be 2 d1.id ++ (be 1 0 ++ (be 1 0 ++ (be 1 d1.kd ++ (encName d1.nm ++ (be 1 0 ++ []))))) = _
    rw [hab, List.append_nil, show be 1 0 = [0] from by decide]; rfl
  have e1 : enc ⟨d1.id, true, 0, d1.nm, d1.kd, []⟩ = a :: b :: 1 :: (be 1 0 ++ (be 1 d1.kd ++ (encName d1.nm ++ be 1 0))) := by
    show be 2 d1.id ++ (be 1 1 ++ (be 1 0 ++ (be 1 d1.kd ++ (encName d1.nm ++ (be 1 0 ++ []))))) = _
    rw [hab, List.append_nil, show be 1 0 = [0] from by decide, show be 1 1 = [1] from by decide]; rfl
  have l0 := enc_len _ (okB false)
  have H0 := fun W => encL _ (okB false) none 0 0 W (SRow.nil _ _ _ _ _)
  have H1 := fun A c lo W h => encL _ (okB true) A c lo W h
  have HD := decL _ (okB false)
  rw [e0] at H0 HD l0
  rw [e1] at H1
  generalize (be 1 0 ++ (be 1 d1.kd ++ (encName d1.nm ++ be 1 0))) = R at *
  have z0 : (⟨(a :: b :: 0 :: R).toArray⟩ : ByteArray).size = R.length + 3 := rfl
  have z1 : (⟨(a :: b :: 1 :: R).toArray⟩ : ByteArray).size = R.length + 3 := rfl
  simp only [List.length_cons] at l0
  exact walk35 x d1 Ax nx cx ⟨(a :: b :: 0 :: R).toArray⟩ ⟨(a :: b :: 1 :: R).toArray⟩ ⟨#[a, b]⟩ ⟨R.toArray⟩ _ w hAx HX (Lib.hid H0) (Lib.hid HD) (Lib.hid H1) (Lib.hid fun A c W h => validL _ hfq A c _ W h) hmq (by rw [z0, z1]) (by rw [z0]; omega) (by rw [z0]; omega)
    (ByteArray.ext (by simp)) (ByteArray.ext (by simp)) (ByteArray.ext (by rw [z0]; simp)) (ByteArray.ext (by rw [z1]; simp)) (fun h => rfl) (fun h => rfl) r1
end Go.Proofs.Ythdggmigjddneaa.Dn
