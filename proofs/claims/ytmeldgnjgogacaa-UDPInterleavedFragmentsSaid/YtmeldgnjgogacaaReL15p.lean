/-
  Plain facts on the table: a fragment of a datagram that is not there yet; the list of the law ReassemblyExpiresOnce.
-/
import Derived.Test.YtmeldgnjgogacaaRePart
import Derived.Test.YtmeldgnjgogacaaReArg
namespace Go.Proofs.Ytmeldgnjgogacaa.Re
set_option maxRecDepth 100000
open Go.RowKit Go.Proofs.Ytmeldgnjgogacaa.Wire
open Go.Proofs.Ytmeldgnjgogacaa.Ip (Pk vlenB VLen)

theorem confl_new (now : Int) (p : Pk) (h0 : 0 ≤ p.off) : conflB (newF now) p = false := by
  have h1 : diffAny (newF now) p p.s.size = false := by
    unfold diffAny
    rw [List.any_eq_false]
    intro j _
    simp [differsB, newF]
  unfold conflB
  rw [h1]
  have h2 : decide (p.off + (p.s.size : Int) < ((newF now).by_.length : Int)) = false := by
    rw [decide_eq_false]
    show ¬ (p.off + (p.s.size : Int) < ((0 : Nat) : Int))
    omega
  rw [h2]
  simp [newF]
theorem storeF_ended (H : Hf) (p : Pk) (hm : p.mf = true) : (storeF H p).ended = H.ended := by
  have h := (layN_start p.s p.off.toNat (growF H (p.off.toNat + p.s.size)) p.s.size).2.2.2.2.1
  unfold storeF firstF endF
  rw [if_pos hm]
  split <;> exact h
theorem storeF_first (H : Hf) (p : Pk) (hs : H.started = false) : (storeF H p).started = decide (p.off = 0) ∧ (p.off = 0 → (storeF H p).first = p) := by
  have h := layN_start p.s p.off.toNat (growF H (p.off.toNat + p.s.size)) p.s.size
  have hst : (endF (layN p.s p.off.toNat (growF H (p.off.toNat + p.s.size)) p.s.size) p).started = false := by
    unfold endF
    split
    · rw [h.2.1]; exact hs
    · show (layN _ _ _ _).started = _
      rw [h.2.1]; exact hs
  unfold storeF firstF
  by_cases h0 : p.off = 0
  · rw [if_pos ⟨h0, hst⟩]
    exact ⟨by rw [decide_eq_true h0], fun _ => rfl⟩
  · rw [if_neg (fun q => h0 q.1), hst]
    exact ⟨by rw [decide_eq_false h0], fun q => absurd q h0⟩
theorem storeF_rej (H : Hf) (p : Pk) : (storeF H p).rej = H.rej := by
  have h := (layN_start p.s p.off.toNat (growF H (p.off.toNat + p.s.size)) p.s.size).2.2.2.1
  unfold storeF firstF endF
  split <;> split <;> exact h
theorem hasK_none {A : List (Ky × Hf)} {k : Ky} (h : ∀ x ∈ A, x.1 ≠ k) : hasK A k = none := by
  unfold hasK
  rw [List.findIdx?_eq_none_iff]
  intro y hy
  obtain ⟨x, hx, rfl⟩ := List.mem_map.1 hy
  exact decide_eq_false (fun q => h x hx q.symm)
theorem putA_new {A : List (Ky × Hf)} {now : Int} {p : Pk} (hv : vldB p = true) (hm : p.mf = true) (hk : ∀ x ∈ A, x.1 ≠ keyOf p) : putA A now p = (A ++ [(keyOf p, storeF (newF now) p)], pk0, false, 0) := by
  have hb := vld_bounds hv
  have hw : wholeB (storeF (newF now) p) = false := by
    unfold wholeB
    rw [storeF_ended _ _ hm]; rfl
  unfold putA
  rw [if_neg (by rw [hv]; simp), if_neg (by rw [hm]; simp), hasK_none hk]
  dsimp only
  unfold putH
  rw [if_neg (by simp [newF]), if_neg (by rw [confl_new _ _ hb.1]; simp), if_neg (by rw [hw]; simp)]
  rw [List.set_append_right _ _ (Nat.le_refl _), Nat.sub_self]; rfl
/-- the packets of the law ExpiresOnce -/
def pE (x : Prw) (i : Nat) : Pk := { partOf x.wh x.of x.lo true x.od with id := 100 + (i : Int) }
def psE (l : List Prw) (k : Nat) : List Pk := (List.range k).map fun i => pE (l.getD i default) i
def aE (l : List Prw) (k : Nat) : List (Ky × Hf) := (List.range k).map fun i => (keyOf (pE (l.getD i default) i), storeF (newF (i : Int)) (pE (l.getD i default) i))
def firstsE (l : List Prw) (k : Nat) : List Pk := (psE l k).filter fun p => p.off == 0
theorem aE_length (l : List Prw) (k : Nat) : (aE l k).length = k := by simp [aE]
theorem aE_succ {l : List Prw} {k : Nat} {x : Prw} (h : l[k]? = some x) : aE l (k + 1) = aE l k ++ [(keyOf (pE x k), storeF (newF (k : Int)) (pE x k))] := by
  unfold aE
  rw [List.range_succ, List.map_append]
  simp [h]
theorem psE_succ {l : List Prw} {k : Nat} {x : Prw} (h : l[k]? = some x) : psE l (k + 1) = psE l k ++ [pE x k] := by
  unfold psE
  rw [List.range_succ, List.map_append]
  simp [h]
theorem firstsE_succ {l : List Prw} {k : Nat} {x : Prw} (h : l[k]? = some x) : firstsE l (k + 1) = firstsE l k ++ (if (pE x k).off = 0 then [pE x k] else []) := by
  unfold firstsE
  rw [psE_succ h, List.filter_append]
  by_cases h0 : (pE x k).off = 0
  · rw [if_pos h0]; simp [h0]
  · rw [if_neg h0]; simp [h0]
theorem firstsE_le (l : List Prw) (k : Nat) : (firstsE l k).length ≤ k := by
  have := List.length_filter_le (fun p : Pk => p.off == 0) (psE l k)
  unfold firstsE
  simp [psE] at *; omega
theorem pE_valid (x : Prw) (i : Nat) (hi : i < 8) : vldB (pE x i) = true := by
  have h := partOf_valid x.wh x.of x.lo true x.od
  unfold vldB vlenB at h ⊢
  have h := of_decide_eq_true h
  obtain ⟨h1, ⟨h2, h3, h4, h5, h6, h7⟩, h8⟩ := h
  refine decide_eq_true ⟨h1, ⟨h2, h3, h4, h5, ?_, ?_⟩, h8⟩
  · show 0 ≤ 100 + (i : Int); omega
  · show 100 + (i : Int) ≤ 65535; omega
theorem putA_E {l : List Prw} {k : Nat} {x : Prw} (h : l[k]? = some x) (hk : k < 8) : putA (aE l k) (k : Int) (pE x k) = (aE l (k + 1), pk0, false, 0) := by
  rw [aE_succ h]
  refine putA_new (pE_valid x k hk) rfl ?_
  intro y hy
  unfold aE at hy
  obtain ⟨i, hi, rfl⟩ := List.mem_map.1 hy
  have hi := List.mem_range.1 hi
  intro q
  have : (100 + (i : Int)) = 100 + (k : Int) := congrArg Ky.i q
  omega
theorem old_E {now : Int} {l : List Prw} {i : Nat} (hn : 1000 ≤ now) (hi : i < 8) : oldB now (storeF (newF (i : Int)) (pE (l.getD i default) i)) = true := by
  unfold oldB
  rw [storeF_start]
  refine decide_eq_true ⟨?_, ?_⟩
  · show (i : Int) ≤ now; omega
  · show 30 ≤ now - (i : Int); omega
theorem keep_E {l : List Prw} {k : Nat} (hk : k ≤ 8) : keepA 1000 (aE l k) = [] := by
  unfold keepA
  rw [List.filter_eq_nil_iff]
  intro y hy
  unfold aE at hy
  obtain ⟨i, hi, rfl⟩ := List.mem_map.1 hy
  have hi := List.mem_range.1 hi
  dsimp only
  rw [old_E (by omega) (by omega)]; simp
theorem told_E {l : List Prw} : ∀ {k : Nat}, k ≤ 8 → toldA 1000 (aE l k) = firstsE l k
  | 0, _ => rfl
  | k + 1, hk => by
    have ih := told_E (l := l) (k := k) (by omega)
    have e1 : aE l (k + 1) = aE l k ++ [(keyOf (pE (l.getD k default) k), storeF (newF (k : Int)) (pE (l.getD k default) k))] := by
      unfold aE; rw [List.range_succ, List.map_append]; rfl
    have e2 : firstsE l (k + 1) = firstsE l k ++ (if (pE (l.getD k default) k).off = 0 then [pE (l.getD k default) k] else []) := by
      unfold firstsE psE
      rw [List.range_succ, List.map_append, List.filter_append]
      by_cases h0 : (pE (l.getD k default) k).off = 0
      · rw [if_pos h0]; simp only [List.map_cons, List.map_nil, List.filter_cons, h0]; rfl
      · rw [if_neg h0]
        have : ((pE (l.getD k default) k).off == 0) = false := by rw [beq_eq_false_iff_ne]; exact h0
        simp only [List.map_cons, List.map_nil, List.filter_cons, this]; rfl
    rw [e1, e2, ← ih]
    unfold toldA
    rw [List.filter_append, List.map_append]
    congr 1
    have ho := old_E (now := 1000) (l := l) (i := k) (by omega) (by omega)
    have hf := storeF_first (newF (k : Int)) (pE (l.getD k default) k) rfl
    by_cases h0 : (pE (l.getD k default) k).off = 0
    · have hs : (storeF (newF (k : Int)) (pE (l.getD k default) k)).started = true := by rw [hf.1]; exact decide_eq_true h0
      rw [if_pos h0]
      simp only [List.filter_cons, ho, hs, Bool.and_self, if_true, List.filter_nil, List.map_cons, List.map_nil, hf.2 h0]
    · have hs : (storeF (newF (k : Int)) (pE (l.getD k default) k)).started = false := by rw [hf.1]; exact decide_eq_false h0
      rw [if_neg h0]
      simp only [List.filter_cons, ho, hs, Bool.and_false]; rfl
end Go.Proofs.Ytmeldgnjgogacaa.Re
