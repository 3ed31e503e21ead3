/-
  The contract of the reference's Reader.name.
-/
import Derived.Test.YthdggmigjddneaaDnRnum
namespace Go.Proofs.Ythdggmigjddneaa.Dn
set_option maxRecDepth 100000
open Go.RowKit Go.Proofs.Ythdggmigjddneaa.Wire

theorem restOf_take (s : ByteArray) (a n : Nat) : (s.extract a (a + n)).data.toList = (restOf s a).take n := by
  unfold restOf
  rw [ByteArray.data_extract, Array.toList_extract, List.extract_eq_drop_take', List.take_drop]
theorem restOf_size (s : ByteArray) (a : Nat) : (restOf s a).length = s.size - a := by unfold restOf; rw [List.length_drop]; rfl
/-- what was read stays ahead of what follows -/
theorem rdName_le : ∀ (m : Nat) (acc l x r : List UInt8), rdName m acc l = some (x, r) → acc.length ≤ x.length
  | 0, _, _, _, _, h => by simp [rdName] at h
  | m + 1, acc, [], x, r, h => by simp [rdName] at h
  | m + 1, acc, b :: t, x, r, h => by
    rw [rdName_cont] at h
    unfold cont at h
    split at h
    · simp at h; rw [h.1]; exact Nat.le_refl _
    · split at h
      · cases h
      · have := rdName_le m _ _ x r h
        refine Nat.le_trans ?_ this
        rw [List.length_append]
        split
        · omega
        · rw [List.length_append]; omega
/-- the state of the reading: while nothing is bad, what is to be read is read still -/
def NmS (s : ByteArray) (a : Nat) (bad : Bool) (A : ByteArray) (a' : Nat) : Prop := bad = false → ∀ x r, x.length ≤ 60 → rdName 62 [] (restOf s a) = some (x, r) → ∃ m, rdName m A.data.toList (restOf s a') = some (x, r)
/-- the result of the reading -/
def NmE (s : ByteArray) (a : Nat) (bad : Bool) (A : ByteArray) (a' : Nat) (b' : Bool) : Prop := (bad = true → b' = true) ∧ (bad = false → ∀ x r, x.length ≤ 60 → rdName 62 [] (restOf s a) = some (x, r) → A.data.toList = x ∧ b' = false ∧ r = restOf s a')
theorem NmS.start (s : ByteArray) (a : Nat) (bad : Bool) : NmS s a bad ⟨#[]⟩ a := fun _ x r _ h => ⟨62, h⟩
theorem NmE.bad (s : ByteArray) (a : Nat) (A : ByteArray) (a' : Nat) : NmE s a true A a' true := ⟨fun _ => rfl, fun h => by cases h⟩
/-- nothing more to read -/
theorem NmS.nil {s : ByteArray} {a : Nat} {bad : Bool} {A : ByteArray} {a' : Nat} (h : NmS s a bad A a') (hr : rdNum 1 (restOf s a') = none) (B : ByteArray) (e : Nat) : NmE s a bad B e true :=
  ⟨fun _ => rfl, fun hb x r hx hx2 => by
    obtain ⟨m, hm⟩ := h hb x r hx hx2
    cases m with
    | zero => simp [rdName] at hm
    | succ m =>
      rcases rdName_next m A.data.toList s a' with ⟨-, q⟩ | ⟨n, -, q, -⟩
      · rw [q] at hm; cases hm
      · rw [q] at hr; cases hr⟩
theorem NmS.next {s : ByteArray} {a : Nat} {bad : Bool} {A : ByteArray} {a' a1 : Nat} {n : Int} (h : NmS s a bad A a') (hr : rdNum 1 (restOf s a') = some (n, restOf s a1)) (hb : bad = false) (x r : List UInt8) (hx : x.length ≤ 60) (hx2 : rdName 62 [] (restOf s a) = some (x, r)) :
    ∃ m, cont m A.data.toList n.toNat (restOf s a1) = some (x, r) := by
  obtain ⟨m, hm⟩ := h hb x r hx hx2
  cases m with
  | zero => simp [rdName] at hm
  | succ m =>
    rcases rdName_next m A.data.toList s a' with ⟨q, -⟩ | ⟨k, -, q, q2⟩
    · rw [q] at hr; cases hr
    · rw [q] at hr
      simp only [Option.some.injEq, Prod.mk.injEq] at hr
      obtain ⟨rfl, h2⟩ := hr
      refine ⟨m, ?_⟩
      rw [← hm, q2, ← h2]; rfl
/-- the end of the name -/
theorem NmS.zero {s : ByteArray} {a : Nat} {A : ByteArray} {a' a1 : Nat} (h : NmS s a false A a') (hr : rdNum 1 (restOf s a') = some (0, restOf s a1)) : NmE s a false A a1 false :=
  ⟨fun h => (by cases h), fun hb x r hx hx2 => by
    obtain ⟨m, hm⟩ := h.next hr hb x r hx hx2
    unfold cont at hm
    simp only [Int.toNat_zero, if_true, Option.some.injEq, Prod.mk.injEq] at hm
    exact ⟨hm.1, rfl, hm.2.symm⟩⟩
/-- a label that reaches too far -/
theorem NmS.far {s : ByteArray} {a : Nat} {A : ByteArray} {a' a1 n : Nat} (h : NmS s a false A a') (hr : rdNum 1 (restOf s a') = some ((n : Int), restOf s a1)) (h0 : 0 < n) (hf : s.size - a1 < n) (B : ByteArray) (e : Nat) : NmE s a false B e true :=
  ⟨fun _ => rfl, fun hb x r hx hx2 => by
    obtain ⟨m, hm⟩ := h.next hr hb x r hx hx2
    unfold cont at hm
    rw [Int.toNat_natCast, if_neg (by omega), if_pos (by rw [restOf_size]; omega)] at hm
    cases hm⟩
/-- one label more -/
theorem NmS.step {s : ByteArray} {a : Nat} {A A' : ByteArray} {a' a1 n : Nat} (h : NmS s a false A a') (hr : rdNum 1 (restOf s a') = some ((n : Int), restOf s a1)) (h0 : 0 < n) (hA : A'.data.toList = (if A.data.toList.length = 0 then [] else A.data.toList ++ [46]) ++ (restOf s a1).take n) : NmS s a false A' (a1 + n) :=
  fun hb x r hx hx2 => by
    obtain ⟨m, hm⟩ := h.next hr hb x r hx hx2
    unfold cont at hm
    rw [Int.toNat_natCast, if_neg (by omega)] at hm
    split at hm
    · cases hm
    · exact ⟨m, by rw [hA, ← restOf_drop]; exact hm⟩
/-- the name has grown too long -/
theorem NmS.long {s : ByteArray} {a : Nat} {bad : Bool} {A : ByteArray} {a' : Nat} (h : NmS s a bad A a') (hl : 60 < A.size) (B : ByteArray) (e : Nat) : NmE s a bad B e true :=
  ⟨fun _ => rfl, fun hb x r hx hx2 => by
    obtain ⟨m, hm⟩ := h hb x r hx hx2
    have := rdName_le _ _ _ _ _ hm
    have e : A.data.toList.length = A.size := rfl
    omega⟩
def strLen (v : Value) : Nat := match v with | .string A => A.size | _ => 0
theorem rn_bad {s : ByteArray} {a' : Nat} {b : Bool} {r : Option (Int × List UInt8)} {n : Int} {a1 : Nat} (h : r = some (n, restOf s a1) ∧ b = false ∨ r = none ∧ b = true) : (b = false ∧ r = some (n, restOf s a1)) ∨ (b = true ∧ r = none) := by
  rcases h with ⟨h1, h2⟩ | ⟨h1, h2⟩
  · exact .inl ⟨h2, h1⟩
  · exact .inr ⟨h2, h1⟩

set_option maxHeartbeats 8000000 in
theorem rrname_any (B : Nat) (s : ByteArray) (a : Nat) (bad : Bool) (W : World) (hB : W.heap[B]? = some (rrO s a bad)) (hs : s.size ≤ 1000000) (ha : a ≤ s.size) :
    Calls Try.prog 39 #[.pointer (some ⟨B, 0, none⟩)] W fun e w' => (∃ (A : ByteArray) (a' : Nat) (b' : Bool), e = .returned (.string A) ∧ w'.heap[B]? = some (rrO s a' b') ∧ a' ≤ s.size ∧ A.size ≤ 400 ∧ NmE s a bad A a' b') ∧ W.grownBy w' (some B) := by
  have HX := Lib.hid hB
  have hlt := blk_lt hB
  clear hB
  go_enter Try.func39, Try.ntmps39
  go_wp2_with fail
  go_loopw [3] (fun v wr => ∃ (A : ByteArray) (a' : Nat), v = .string A ∧ wr.heap[B]? = some (rrO s a' bad) ∧ a' ≤ s.size ∧ A.size ≤ 316 ∧ NmS s a bad A a' ∧ W.grownBy wr (some B)) (fun v wr => 400 - strLen v)
  case atStart => exact ⟨⟨#[]⟩, a, rfl, HX.out, ha, by decide, NmS.start s a bad, World.grownBy.refl W _⟩
  case round =>
    clear HX
    obtain ⟨A, a', rfl, hX, ha', hA, hS, hg⟩ := hrel
    have HX := Lib.hid hX; have HS := Lib.hid hS
    by_cases hlen : A.size ≤ 60
    · have hd : decide ((A.size : Int) ≤ 60) = true := by simp; omega
      have HN := Lib.hid (rnum_any B s a' 1 bad wr hX hs ha' (by omega) (by omega))
      rw [show ((1 : Nat) : Int) = 1 from rfl] at HN
      clear hX hS
      go_wp2_with fail
      refine HN.out.mono ?_
      rintro e w1 ⟨⟨n, a1, b1, rfl, hX1, ha1, ⟨n0, n256⟩, hcase⟩, hg1⟩
      have hgg := hg.trans hg1
      clear HN HX hg hg1
      have HX := Lib.hid hX1; clear hX1
      obtain ⟨k, rfl⟩ := Int.eq_ofNat_of_zero_le n0
      have hk256 : k < 256 := by omega
      clear n0 n256
      have HC := Lib.hid hcase
      clear hcase
      unfold rrO at HX
      have qX0 := (cell_of_block (k := 0) HX.out rfl).1; have zX0 := (cell_of_block (k := 0) HX.out rfl).2; have qX1 := (cell_of_block (k := 1) HX.out rfl).1; have zX1 := (cell_of_block (k := 1) HX.out rfl).2; have qX2 := (cell_of_block (k := 2) HX.out rfl).1; have zX2 := (cell_of_block (k := 2) HX.out rfl).2; have lt_X := blk_lt HX.out
      have hw1 : IntKind.i64.wrap ((s.size : Int) - (a1 : Int)) = (s.size : Int) - (a1 : Int) := IntWalk.i64_in _ (by omega)
      have hw2 : IntKind.i64.wrap ((a1 : Int) + (k : Int)) = (a1 : Int) + (k : Int) := IntWalk.i64_in _ (by omega)
      cases b1 with
      | true =>
        have HE : Hid (∀ B e, NmE s a bad B e true) := Lib.hid fun B e => by
          cases bad with
          | true => exact NmE.bad s a B e
          | false =>
            rcases HC.out with ⟨-, h⟩ | ⟨h, -⟩
            · cases h
            · exact HS.out.nil h B e
        clear HC HS
        by_cases hk0 : k = 0
        · have hk1 : ((k : Int) == 0) = true := by simp; omega
          go_wp2_with fail
          go_quiet (fail)
          have h1 : Hid ((w1.drewN nq).heap[B]? = _) := Lib.hid HX.out
          have hg2 := grown_drewN hgg nq
          generalize w1.drewN nq = w2 at *
          clear qX0 zX0 qX1 zX1 qX2 zX2 lt_X HX hgg
          have HX := h1; clear h1
          have qX0 := (cell_of_block (k := 0) HX.out rfl).1; have zX0 := (cell_of_block (k := 0) HX.out rfl).2; have qX1 := (cell_of_block (k := 1) HX.out rfl).1; have zX1 := (cell_of_block (k := 1) HX.out rfl).2; have qX2 := (cell_of_block (k := 2) HX.out rfl).1; have zX2 := (cell_of_block (k := 2) HX.out rfl).2; have lt_X := blk_lt HX.out
          go_wp2_with fail
          go_ret
          exact ⟨⟨A, a1, true, rfl, cells_eq (block_setCell (k := 2) HX.out) rfl, ha1, by omega, HE.out A a1⟩, only_set (p := ⟨B, 2, none⟩) hg2 (.inl rfl) _⟩
        · have hk1 : ((k : Int) == 0) = false := by simp; omega
          go_wp2_with fail
          go_quiet (fail)
          have h1 : Hid ((w1.drewN nq).heap[B]? = _) := Lib.hid HX.out
          have hg2 := grown_drewN hgg nq
          generalize w1.drewN nq = w2 at *
          clear qX0 zX0 qX1 zX1 qX2 zX2 lt_X HX hgg
          have HX := h1; clear h1
          have qX0 := (cell_of_block (k := 0) HX.out rfl).1; have zX0 := (cell_of_block (k := 0) HX.out rfl).2; have qX1 := (cell_of_block (k := 1) HX.out rfl).1; have zX1 := (cell_of_block (k := 1) HX.out rfl).2; have qX2 := (cell_of_block (k := 2) HX.out rfl).1; have zX2 := (cell_of_block (k := 2) HX.out rfl).2; have lt_X := blk_lt HX.out
          go_wp2_with fail
          go_ret
          exact ⟨⟨A, a1, true, rfl, cells_eq (block_setCell (k := 2) HX.out) rfl, ha1, by omega, HE.out A a1⟩, only_set (p := ⟨B, 2, none⟩) hg2 (.inl rfl) _⟩
      | false =>
        have hrn : rdNum 1 (restOf s a') = some ((k : Int), restOf s a1) ∧ false = bad := by
          rcases HC.out with h | ⟨-, h⟩
          · exact h
          · cases h
        obtain ⟨hrn, rfl⟩ := hrn
        have HR := Lib.hid hrn; clear hrn HC
        by_cases hk0 : k = 0
        · subst hk0
          have HE := Lib.hid (HS.out.zero HR.out)
          clear HS HR
          go_wp2_with fail
          go_quiet (fail)
          have h1 : Hid ((w1.drewN nq).heap[B]? = _) := Lib.hid HX.out
          have hg2 := grown_drewN hgg nq
          generalize w1.drewN nq = w2 at *
          clear qX0 zX0 qX1 zX1 qX2 zX2 lt_X HX hgg
          have HX := h1; clear h1
          have qX0 := (cell_of_block (k := 0) HX.out rfl).1; have zX0 := (cell_of_block (k := 0) HX.out rfl).2; have qX1 := (cell_of_block (k := 1) HX.out rfl).1; have zX1 := (cell_of_block (k := 1) HX.out rfl).2; have qX2 := (cell_of_block (k := 2) HX.out rfl).1; have zX2 := (cell_of_block (k := 2) HX.out rfl).2; have lt_X := blk_lt HX.out
          go_wp2_with fail
          go_ret
          exact ⟨⟨A, a1, false, rfl, cells_eq (block_setCell (k := 2) HX.out) rfl, ha1, by omega, HE.out⟩, only_set (p := ⟨B, 2, none⟩) hg2 (.inl rfl) _⟩
        · have hk1 : ((k : Int) == 0) = false := by simp; omega
          have hk2 : (0 : Int) < (k : Int) := by omega
          by_cases hfar : s.size - a1 < k
          · have HE := Lib.hid (HS.out.far HR.out (by omega) hfar A a1)
            have hf : (s.size : Int) - (a1 : Int) < (k : Int) := by omega
            clear HS HR
            have hk3 : decide (0 < k) = true := by simp; omega
            go_wp2_with fail
            go_quiet (fail)
            have h1 : Hid ((w1.drewN nq).heap[B]? = _) := Lib.hid HX.out
            have hg2 := grown_drewN hgg nq
            generalize w1.drewN nq = w2 at *
            clear qX0 zX0 qX1 zX1 qX2 zX2 lt_X HX hgg
            have HX := h1; clear h1
            have qX0 := (cell_of_block (k := 0) HX.out rfl).1; have zX0 := (cell_of_block (k := 0) HX.out rfl).2; have qX1 := (cell_of_block (k := 1) HX.out rfl).1; have zX1 := (cell_of_block (k := 1) HX.out rfl).2; have qX2 := (cell_of_block (k := 2) HX.out rfl).1; have zX2 := (cell_of_block (k := 2) HX.out rfl).2; have lt_X := blk_lt HX.out
            go_wp2_with fail
            go_ret
            exact ⟨⟨A, a1, true, rfl, cells_eq (block_setCell (k := 2) HX.out) rfl, ha1, by omega, HE.out⟩, only_set (p := ⟨B, 2, none⟩) hg2 (.inl rfl) _⟩
          · have hf : ¬ (s.size : Int) - (a1 : Int) < (k : Int) := by omega
            have hq1 : (a1 : Int) ≤ (a1 : Int) + (k : Int) := by omega
            have hq2 : (a1 : Int) + (k : Int) ≤ (s.size : Int) := by omega
            have hq0 : (0 : Int) ≤ (a1 : Int) := by omega
            have hsz : (s.extract a1 (a1 + k)).size = k := by rw [ByteArray.size_extract]; omega
            have hnat : ((a1 : Int) + (k : Int)).toNat = a1 + k := by omega
            have htk := restOf_take s a1 k
            by_cases hA0 : A.size = 0
            · obtain rfl : A = ⟨#[]⟩ := by
                apply ByteArray.ext; apply Array.ext_getElem?; intro i; rw [Array.getElem?_eq_none (by show A.size ≤ i; omega)]; simp
              have hNS : Hid (NmS s a false (⟨#[]⟩ ++ s.extract a1 (a1 + k)) (a1 + k)) := Lib.hid (HS.out.step HR.out (by omega) (by rw [ByteArray.data_append, Array.toList_append, htk]; rfl))
              have hsn : (⟨#[]⟩ ++ s.extract a1 (a1 + k) : ByteArray).size = k := by rw [ByteArray.size_append, hsz]; simp [ByteArray.size]
              have hms : 400 - (⟨#[]⟩ ++ s.extract a1 (a1 + k) : ByteArray).size < 400 - (⟨#[]⟩ : ByteArray).size := by rw [hsn]; show 400 - k < 400; omega
              clear HS HR
              go_wp2_with fail
              go_quiet (fail)
              have h1 : Hid ((w1.drewN nq).heap[B]? = _) := Lib.hid HX.out
              have hg2 := grown_drewN hgg nq
              generalize w1.drewN nq = w2 at *
              clear qX0 zX0 qX1 zX1 qX2 zX2 lt_X HX hgg
              have HX := h1; clear h1
              have qX0 := (cell_of_block (k := 0) HX.out rfl).1; have zX0 := (cell_of_block (k := 0) HX.out rfl).2; have qX1 := (cell_of_block (k := 1) HX.out rfl).1; have zX1 := (cell_of_block (k := 1) HX.out rfl).2; have qX2 := (cell_of_block (k := 2) HX.out rfl).1; have zX2 := (cell_of_block (k := 2) HX.out rfl).2; have lt_X := blk_lt HX.out
              go_wp2_with fail
              go_quiet (fail)
              have h1 : Hid ((w2.drewN nq).heap[B]? = _) := Lib.hid HX.out
              have hg3 := grown_drewN hg2 nq
              generalize w2.drewN nq = w3 at *
              clear qX0 zX0 qX1 zX1 qX2 zX2 lt_X HX hg2
              have HX := h1; clear h1
              have qX0 := (cell_of_block (k := 0) HX.out rfl).1; have zX0 := (cell_of_block (k := 0) HX.out rfl).2; have qX1 := (cell_of_block (k := 1) HX.out rfl).1; have zX1 := (cell_of_block (k := 1) HX.out rfl).2; have qX2 := (cell_of_block (k := 2) HX.out rfl).1; have zX2 := (cell_of_block (k := 2) HX.out rfl).2; have lt_X := blk_lt HX.out
              go_wp2_with fail
              exact ⟨⟨_, a1 + k, rfl, cells_eq (block_setCell (k := 1) HX.out) rfl, by omega, by rw [hsn]; omega, hNS.out, only_set (p := ⟨B, 1, none⟩) hg3 (.inl rfl) _⟩, hms⟩
            · have hAe : (!A.toList.isEmpty) = true := by
                cases hc : A.toList with
                | nil => exfalso; have := congrArg List.length hc; rw [ByteArray.toList_eq] at this; exact hA0 this
                | cons _ _ => rfl
              have hNS : Hid (NmS s a false (A ++ ⟨#[46]⟩ ++ s.extract a1 (a1 + k)) (a1 + k)) := Lib.hid (HS.out.step HR.out (by omega) (by rw [ByteArray.data_append, ByteArray.data_append, Array.toList_append, Array.toList_append, htk, if_neg (by show ¬ A.size = 0; exact hA0)]))
              have hsn : (A ++ ⟨#[46]⟩ ++ s.extract a1 (a1 + k)).size = A.size + 1 + k := by rw [ByteArray.size_append, ByteArray.size_append, hsz]; rfl
              have hms : 400 - (A ++ ⟨#[46]⟩ ++ s.extract a1 (a1 + k)).size < 400 - A.size := by rw [hsn]; omega
              clear HS HR
              go_wp2_with fail
              go_quiet (fail)
              have h1 : Hid ((w1.drewN nq).heap[B]? = _) := Lib.hid HX.out
              have hg2 := grown_drewN hgg nq
              generalize w1.drewN nq = w2 at *
              clear qX0 zX0 qX1 zX1 qX2 zX2 lt_X HX hgg
              have HX := h1; clear h1
              have qX0 := (cell_of_block (k := 0) HX.out rfl).1; have zX0 := (cell_of_block (k := 0) HX.out rfl).2; have qX1 := (cell_of_block (k := 1) HX.out rfl).1; have zX1 := (cell_of_block (k := 1) HX.out rfl).2; have qX2 := (cell_of_block (k := 2) HX.out rfl).1; have zX2 := (cell_of_block (k := 2) HX.out rfl).2; have lt_X := blk_lt HX.out
              go_wp2_with fail
              go_quiet (fail)
              have h1 : Hid ((w2.drewN nq).heap[B]? = _) := Lib.hid HX.out
              have hg3 := grown_drewN hg2 nq
              generalize w2.drewN nq = w3 at *
              clear qX0 zX0 qX1 zX1 qX2 zX2 lt_X HX hg2
              have HX := h1; clear h1
              have qX0 := (cell_of_block (k := 0) HX.out rfl).1; have zX0 := (cell_of_block (k := 0) HX.out rfl).2; have qX1 := (cell_of_block (k := 1) HX.out rfl).1; have zX1 := (cell_of_block (k := 1) HX.out rfl).2; have qX2 := (cell_of_block (k := 2) HX.out rfl).1; have zX2 := (cell_of_block (k := 2) HX.out rfl).2; have lt_X := blk_lt HX.out
              go_wp2_with fail
              exact ⟨⟨_, a1 + k, rfl, cells_eq (block_setCell (k := 1) HX.out) rfl, by omega, by rw [hsn]; omega, hNS.out, only_set (p := ⟨B, 1, none⟩) hg3 (.inl rfl) _⟩, hms⟩
    · have hd : decide ((A.size : Int) ≤ 60) = false := by simp; omega
      have HE := Lib.hid (hS.long (by omega) ⟨#[]⟩ a')
      clear hX hS HS
      unfold rrO at HX
      have qX0 := (cell_of_block (k := 0) HX.out rfl).1; have zX0 := (cell_of_block (k := 0) HX.out rfl).2; have qX1 := (cell_of_block (k := 1) HX.out rfl).1; have zX1 := (cell_of_block (k := 1) HX.out rfl).2; have qX2 := (cell_of_block (k := 2) HX.out rfl).1; have zX2 := (cell_of_block (k := 2) HX.out rfl).2; have lt_X := blk_lt HX.out
      go_wp2_with fail
      go_wp2_with fail
      go_ret
      exact ⟨⟨⟨#[]⟩, a', true, rfl, cells_eq (block_setCell (k := 2) HX.out) rfl, ha', by decide, HE.out⟩, only_set (p := ⟨B, 2, none⟩) hg (.inl rfl) _⟩
end Go.Proofs.Ythdggmigjddneaa.Dn
