/-
  The law DNSNameLabels, with the plain law of names put in.
-/
import Derived.Test.YthdggmigjddneaaDnL34
namespace Go.Proofs.Ythdggmigjddneaa.Dn
open Go.RowKit Go.Proofs.Ythdggmigjddneaa.Wire Go.Proofs.Ythdggmigjddneaa.Rw

theorem names_dash : ∀ k, k < 10 → nameB (45 :: names.getD k []) = false ∧ nameB (names.getD k [] ++ [45]) = false := by decide +kernel
theorem nameOf_dash (n : Int) : nameB (45 :: nameOf n) = false ∧ nameB (nameOf n ++ [45]) = false := by
  obtain ⟨k, hk, -, e⟩ := nameOf_at n
  rw [e]; exact names_dash k hk
theorem name_nil : nameB [] = false := by decide
theorem law34_any (s t : ByteArray) (n m : Int) (w : World) (hs : s.size ≤ 9223372036854775807) (ht : t.size ≤ 9223372036854775807) (hn : In64 n) (hm : In64 m) :
    Calls Try.prog 6 #[.string s, .string t, .int .i64 n, .int .i64 m] w fun e w' => e = .returned (.bool true) ∧ Below w.heap.size w w' := by
  obtain ⟨a, ha⟩ : ∃ a, s.extract 0 (min (s.size : Int) 40).toNat = a := ⟨_, rfl⟩
  obtain ⟨b, hb⟩ : ∃ b, t.extract 0 (min (t.size : Int) 40).toNat = b := ⟨_, rfl⟩
  have sa : a.size ≤ 40 := by subst ha; rw [ByteArray.size_extract]; omega
  have sb : b.size ≤ 40 := by subst hb; rw [ByteArray.size_extract]; omega
  have kc := nameOf_ok n; have kd := nameOf_ok m
  have sc := name_len kc; have sd := name_len kd
  obtain ⟨q1, q2⟩ := nameOf_dash n
  have hnn := fun W => nameOf_any n W hn
  have hnm := fun W => nameOf_any m W hm
  generalize nameOf n = C at *
  generalize nameOf m = D at *
  have V : ∀ (u : ByteArray) (x : List UInt8) (v : Bool), u.data.toList = x → nameB x = v → u.size ≤ 1000 → ∀ W : World, Calls Try.prog 13 #[.string u] W fun e w' => e = .returned (.bool v) ∧ Below W.heap.size W w' := by
    intro u x v h1 h2 h3 W
    have h := vname_any u W (by omega)
    rw [h1, h2] at h; exact h
  have hA : a.data.toList.length = a.size := rfl
  have hB : b.data.toList.length = b.size := rfl
  refine walk34 s t n m C D a b _ (nameB a.data.toList) (nameB b.data.toList) _ w (by unfold maxLen; exact hs) (by unfold maxLen; exact ht) ha hb sa sb sc sd rfl rfl (Lib.hid hnn) (Lib.hid hnm) (Lib.hid (V _ (a.data.toList ++ 46 :: b.data.toList) _ (by simp) ?_ (by rw [ByteArray.size_append, ByteArray.size_append]; show a.size + 1 + b.size ≤ 1000; omega))) (Lib.hid (V _ _ _ rfl rfl (by omega))) (Lib.hid (V _ _ _ rfl rfl (by omega))) (Lib.hid (V _ C _ rfl kc (by show C.length ≤ _; omega)))
    (Lib.hid (V _ (C ++ 46 :: D) _ (by simp) ?_ (by simp [ByteArray.size_append, ByteArray.size]; omega))) (Lib.hid (V _ ([] ++ 46 :: C) _ (by simp) ?_ (by simp [ByteArray.size_append, ByteArray.size]; omega))) (Lib.hid (V _ (C ++ 46 :: []) _ (by simp) ?_ (by simp [ByteArray.size_append, ByteArray.size]; omega))) (Lib.hid (V _ (45 :: C) _ (by simp) q1 (by simp [ByteArray.size_append, ByteArray.size]; omega))) (Lib.hid (V _ (C ++ [45]) _ (by simp) q2 (by simp [ByteArray.size_append, ByteArray.size]; omega)))
  · rw [name_join, List.length_append, List.length_cons, hA, hB, show a.size + (b.size + 1) = a.size + 1 + b.size from by omega]
  · rw [name_join, kc, kd, List.length_append, List.length_cons, show C.length + (D.length + 1) = C.length + 1 + D.length from by omega]; rfl
  · rw [name_join, name_nil]; simp
  · rw [name_join, name_nil]; simp
end Go.Proofs.Ythdggmigjddneaa.Dn
