/-
  ARP messages, held packets and entries as plain data; contracts of arp.Valid, unicast, unicastMac.
-/
import Derived.Test.YtmgjcjacoegocaaDoorBase1
import Derived.Test.YtmgjcjacoegocaaDoorRows
namespace Go.Proofs.YtmgjcjacoegocaaDoor.Ar
set_option maxRecDepth 100000
open Go.RowKit Go.Proofs.YtmgjcjacoegocaaDoor.Wire

def In64 (n : Int) : Prop := -9223372036854775808 ≤ n ∧ n ≤ 9223372036854775807
/-- an ARP message -/
structure Am where
  op : Int
  f : Int
  fm : Int
  t : Int
  tm : Int
deriving DecidableEq
def Am.ok (a : Am) : Prop := (1 ≤ a.f ∧ a.f < 4294967295) ∧ (1 ≤ a.t ∧ a.t < 4294967295) ∧ (1 ≤ a.fm ∧ a.fm ≤ 65534) ∧ (a.op = 1 ∧ a.tm = 0 ∨ a.op = 2 ∧ 1 ≤ a.tm ∧ a.tm ≤ 65534)
instance (a : Am) : Decidable a.ok := by unfold Am.ok; infer_instance
def Am.okB (a : Am) : Bool := decide a.ok
theorem Am.okB_iff (a : Am) : a.okB = true ↔ a.ok := by unfold Am.okB; exact decide_eq_true_iff
def Am.cells (a : Am) : List Value := [.int .i64 a.op, .int .i64 a.f, .int .i64 a.fm, .int .i64 a.t, .int .i64 a.tm]
def uniB (a : Int) : Bool := decide (1 ≤ a ∧ a < 4294967295)
def umacB (m : Int) : Bool := decide (1 ≤ m ∧ m ≤ 65534)
/-- a held packet -/
structure Hp where
  to_ : Int
  mac : Int
  s : ByteArray
def Hp.cells (p : Hp) : List Value := [.int .i64 p.to_, .int .i64 p.mac, .string p.s]

theorem uni_any (a : Int) (w : World) : Calls Tryd.prog 43 #[.int .i64 a] w fun e w' => e = .returned (.bool (uniB a)) ∧ w = w' := by
  go_enter Tryd.func43, Tryd.ntmps43
  go_wp2
  all_goals
    go_ret
    refine ⟨ret_bool ?_, rfl⟩
    unfold uniB
    rw [Bool.eq_iff_iff]; simp; try omega
theorem umac_any (a : Int) (w : World) : Calls Tryd.prog 44 #[.int .i64 a] w fun e w' => e = .returned (.bool (umacB a)) ∧ w = w' := by
  go_enter Tryd.func44, Tryd.ntmps44
  go_wp2
  all_goals
    go_ret
    refine ⟨ret_bool ?_, rfl⟩
    unfold umacB
    rw [Bool.eq_iff_iff]; simp; try omega
set_option maxHeartbeats 4000000 in
theorem valid_any (op f fm t tm : Int) (w : World) : Calls Tryd.prog 53 #[.agg #[.int .i64 op, .int .i64 f, .int .i64 fm, .int .i64 t, .int .i64 tm]] w fun e w' => e = .returned (.bool (Am.okB ⟨op, f, fm, t, tm⟩)) ∧ Below w.heap.size w w' := by
  have HU := Lib.hid uni_any; have HM := Lib.hid umac_any
  go_enter Tryd.func53, Tryd.ntmps53
  have e1 : Am.okB ⟨op, f, fm, t, tm⟩ = (uniB f && uniB t && umacB fm && ((op == 1) && (tm == 0) || (op == 2) && umacB tm)) := by
    rw [Bool.eq_iff_iff, Am.okB_iff]
    unfold Am.ok uniB umacB
    simp; try omega
  have HE := Lib.hid e1; clear e1
  obtain ⟨bf, hbf⟩ : ∃ b, uniB f = b := ⟨_, rfl⟩
  obtain ⟨bt, hbt⟩ : ∃ b, uniB t = b := ⟨_, rfl⟩
  obtain ⟨bm, hbm⟩ : ∃ b, umacB fm = b := ⟨_, rfl⟩
  obtain ⟨bn, hbn⟩ : ∃ b, umacB tm = b := ⟨_, rfl⟩
  have H1 : Hid (∀ W, Calls Tryd.prog 43 #[.int .i64 f] W fun e w' => e = .returned (.bool bf) ∧ W = w') := Lib.hid (fun W => hbf ▸ uni_any f W)
  have H2 : Hid (∀ W, Calls Tryd.prog 43 #[.int .i64 t] W fun e w' => e = .returned (.bool bt) ∧ W = w') := Lib.hid (fun W => hbt ▸ uni_any t W)
  have H3 : Hid (∀ W, Calls Tryd.prog 44 #[.int .i64 fm] W fun e w' => e = .returned (.bool bm) ∧ W = w') := Lib.hid (fun W => hbm ▸ umac_any fm W)
  have H4 : Hid (∀ W, Calls Tryd.prog 44 #[.int .i64 tm] W fun e w' => e = .returned (.bool bn) ∧ W = w') := Lib.hid (fun W => hbn ▸ umac_any tm W)
  rw [hbf, hbt, hbm, hbn] at HE
  clear HU HM hbf hbt hbm hbn
  cases bf <;> cases bt <;> cases bm <;> cases bn
  all_goals
    go_wp2_with (first | (go_at_call 43; (with_reducible refine (H1.out _).mono ?_); rintro e w' ⟨rfl, rfl⟩) | (go_at_call 43; (with_reducible refine (H2.out _).mono ?_); rintro e w' ⟨rfl, rfl⟩) | (go_at_call 44; (with_reducible refine (H3.out _).mono ?_); rintro e w' ⟨rfl, rfl⟩) | (go_at_call 44; (with_reducible refine (H4.out _).mono ?_); rintro e w' ⟨rfl, rfl⟩))
  all_goals
    go_ret
    refine ⟨ret_bool ?_, (Below.refl _ _).alloc (Nat.le_refl _) _⟩
    rw [HE.out]
    simp_all
end Go.Proofs.YtmgjcjacoegocaaDoor.Ar
