/-
  What the law ReassemblyBounded uses of the plain table: at most eight datagrams, each with at least eight bytes.
-/
import Derived.Test.YtmeldgnjgogacaaReL15p
namespace Go.Proofs.Ytmeldgnjgogacaa.Re
set_option maxRecDepth 100000
open Go.RowKit Go.Proofs.Ytmeldgnjgogacaa.Wire
open Go.Proofs.Ytmeldgnjgogacaa.Ip (Pk vlenB VLen)

theorem layN_fresh (s : ByteArray) (o : Nat) (H : Hf) : ∀ n, (∀ j, o ≤ j → j < o + n → H.hv[j]? = some false) → (layN s o H n).cnt = H.cnt + n ∧ ∀ j, o + n ≤ j → (layN s o H n).hv[j]? = H.hv[j]?
  | 0, _ => ⟨by simp [layN], fun _ _ => rfl⟩
  | n + 1, h => by
    obtain ⟨h1, h2⟩ := layN_fresh s o H n (fun j a b => h j a (by omega))
    have h3 : (layN s o H n).hv[o + n]? = some false := by rw [h2 _ (Nat.le_refl _)]; exact h _ (by omega) (by omega)
    unfold layN
    rw [laySet_new h3]
    dsimp only
    refine ⟨by rw [h1]; omega, fun j hj => ?_⟩
    rw [List.getElem?_set_ne (by omega)]
    exact h2 j (by omega)
theorem storeF_cnt (now : Int) (p : Pk) : (storeF (newF now) p).cnt = (p.s.size : Int) := by
  have h := (layN_fresh p.s p.off.toNat (growF (newF now) (p.off.toNat + p.s.size)) p.s.size (fun j a b => by
    show (([] : List Bool) ++ List.replicate (p.off.toNat + p.s.size - 0) false)[j]? = some false
    rw [List.nil_append, List.getElem?_replicate, if_pos (by omega)])).1
  have e : (storeF (newF now) p).cnt = (layN p.s p.off.toNat (growF (newF now) (p.off.toNat + p.s.size)) p.s.size).cnt := by
    unfold storeF firstF endF
    split <;> split <;> rfl
  rw [e, h]
  show (0 : Int) + _ = _
  omega
/-- the i-th fragment -/
def bE (x : Prw) (i : Nat) : Pk := { partOf x.wh x.of x.lo true x.od with id := (i : Int) }
theorem bE_valid (x : Prw) (i : Nat) (hi : i < 60) : vldB (bE x i) = true := by
  have h := partOf_valid x.wh x.of x.lo true x.od
  unfold vldB vlenB at h ⊢
  have h := of_decide_eq_true h
  obtain ⟨h1, ⟨h2, h3, h4, h5, h6, h7⟩, h8⟩ := h
  refine decide_eq_true ⟨h1, ⟨h2, h3, h4, h5, ?_, ?_⟩, h8⟩
  · show 0 ≤ (i : Int); omega
  · show (i : Int) ≤ 65535; omega
theorem bE_size (x : Prw) (i : Nat) : 8 ≤ (bE x i).s.size ∧ (bE x i).s.size ≤ 24 := by
  show 8 ≤ (partOf x.wh x.of x.lo true x.od).s.size ∧ _
  have := partOf_size x.wh x.of x.lo true x.od
  have h2 : partN x.lo true = 8 * (1 + x.lo % 3) := rfl
  show 8 ≤ (partOf x.wh x.of x.lo true x.od).s.size ∧ (partOf x.wh x.of x.lo true x.od).s.size ≤ 24
  omega
/-- the table ahead of round i -/
structure StB (i : Nat) (A : List (Ky × Hf)) : Prop where
  len : A.length = min i 8
  old : ∀ x ∈ A, x.1.i < (i : Int)
  st : ∀ x ∈ A, x.2.start = 0
  cnt : ∀ x ∈ A, 8 ≤ x.2.cnt ∧ x.2.cnt ≤ 24
theorem stB_start : StB 0 [] := ⟨rfl, fun x hx => by simp at hx, fun x hx => by simp at hx, fun x hx => by simp at hx⟩
theorem stB_sum {A : List (Ky × Hf)} (h : ∀ x ∈ A, 8 ≤ x.2.cnt ∧ x.2.cnt ≤ 24) : 8 * (A.length : Int) ≤ sumA A ∧ sumA A ≤ 24 * (A.length : Int) := by
  induction A with
  | nil => exact ⟨by simp [sumA], by simp [sumA]⟩
  | cons x A ih =>
    have h1 := h x (by simp)
    have h2 := ih (fun y hy => h y (by simp [hy]))
    have e : sumA (x :: A) = x.2.cnt + sumA A := rfl
    rw [e, List.length_cons]
    omega
/-- what stays of the table -/
def restB (A : List (Ky × Hf)) : List (Ky × Hf) := if A.length = 8 then A.tail else A
theorem stB_put {i : Nat} {A : List (Ky × Hf)} (h : StB i A) (x : Prw) (hi : i < 60) :
    (∀ y ∈ A, y.1 ≠ keyOf (bE x i)) ∧ ∃ A', putA (restB A) 0 (bE x i) = (A', pk0, false, 0) ∧ StB (i + 1) A' := by
  have hne : ∀ y ∈ A, y.1 ≠ keyOf (bE x i) := fun y hy e => by
    have h1 := h.old y hy
    have h2 : y.1.i = (i : Int) := by rw [e]; rfl
    omega
  have hsub : ∀ y ∈ restB A, y ∈ A := fun y hy => by
    unfold restB at hy
    split at hy
    · exact List.mem_of_mem_tail hy
    · exact hy
  have hl := h.len
  have hlr : (restB A).length = min i 7 := by
    unfold restB
    split
    · rw [List.length_tail]; omega
    · omega
  refine ⟨hne, _, putA_new (bE_valid x i hi) rfl (fun y hy => hne y (hsub y hy)), ?_, fun y hy => ?_, fun y hy => ?_, fun y hy => ?_⟩
  · rw [List.length_append, hlr]; simp; omega
  · rcases List.mem_append.1 hy with q | q
    · have := h.old y (hsub y q); omega
    · simp at q; rw [q]; show ((i : Nat) : Int) < _; omega
  · rcases List.mem_append.1 hy with q | q
    · exact h.st y (hsub y q)
    · simp at q; rw [q]; exact storeF_start _ _
  · rcases List.mem_append.1 hy with q | q
    · exact h.cnt y (hsub y q)
    · simp at q; rw [q]
      have := bE_size x i
      show 8 ≤ (storeF (newF 0) (bE x i)).cnt ∧ (storeF (newF 0) (bE x i)).cnt ≤ 24
      rw [storeF_cnt]; omega
theorem stB_29 {i : Nat} {A : List (Ky × Hf)} (h : StB i A) : toldA 29 A = [] ∧ keepA 29 A = A := by
  have ho : ∀ x ∈ A, oldB 29 x.2 = false := fun x hx => by
    unfold oldB
    rw [h.st x hx]
    exact decide_eq_false (by omega)
  constructor
  · unfold toldA
    rw [List.map_eq_nil_iff, List.filter_eq_nil_iff]
    intro x hx
    rw [ho x hx]; simp
  · unfold keepA
    rw [List.filter_eq_self]
    intro x hx
    rw [ho x hx]; rfl
theorem stB_30 {i : Nat} {A : List (Ky × Hf)} (h : StB i A) : (toldA 30 A).length ≤ 8 := by
  unfold toldA
  rw [List.length_map]
  have := List.length_filter_le (fun x : Ky × Hf => oldB 30 x.2 && x.2.started) A
  have := h.len
  omega
end Go.Proofs.Ytmeldgnjgogacaa.Re
