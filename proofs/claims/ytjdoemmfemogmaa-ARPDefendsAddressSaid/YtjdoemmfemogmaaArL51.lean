/-
  The walk of the law ARPDefendsAddress.
-/
import Derived.Test.YtjdoemmfemogmaaArSan
import Derived.Test.YtjdoemmfemogmaaArGen
import Derived.Test.YtjdoemmfemogmaaArArgI
namespace Go.Proofs.Ytjdoemmfemogmaa.Ar
set_option maxRecDepth 100000
open Go.RowKit Go.Proofs.Ytjdoemmfemogmaa.Wire

theorem recv_own (c : Tc) (A : AL) (now fm t : Int) (hown : c.own = 10) (hmac : c.mac = 5) (hf : 1 ≤ fm ∧ fm ≤ 9) (ht : 10 ≤ t ∧ t ≤ 12) : recvA c A now ⟨1, 10, fm, t, 0⟩ = if fm = 5 then (c, A, [], []) else ((defA c now).1, A, (defA c now).2, []) := by
  have hok : (⟨1, 10, fm, t, 0⟩ : Am).ok := by unfold Am.ok; dsimp only; omega
  unfold recvA
  rw [if_neg (fun q => q hok), hown, hmac, if_pos rfl]
set_option maxHeartbeats 8000000 in
theorem defends_law (A : Option Addr) (nt ct : Nat) (tl : List Int) (mc : Int) (w : World) (hA : ArgI w A nt tl) (hm : In64 mc) :
    Calls Try.prog 4 #[.slice A nt ct, .int .i64 mc] w fun x w' => x = .returned (.bool true) ∧ Below w.heap.size w w' := by
  have HA := Lib.hid hA
  have hnt := hA.size
  have P3 := Lib.hid (fun W => pick_any mc 3 W hm (by omega) (by omega))
  have hp3 := pick_lt mc 3 (by omega)
  generalize pick mc 3 = z3 at *
  clear hA hm
  go_enter Try.func4, Try.ntmps4
  go_wp2_with fail
  refine (sanity_any _).mono ?_
  rintro x w1 ⟨rfl, hb1⟩
  go_wp2_with fail
  refine (new_any 10 5 _).mono ?_
  rintro x w2 (⟨-, -, rfl, hw2⟩ | ⟨hb, -, -⟩)
  case inr => rcases hb with hb | hb <;> cases hb
  have HO : Hid (OneA w w1.heap.size ⟨10, 5, false, 0⟩ [] (fun _ => False) w2) := Lib.hid (by rw [hw2]; exact (OneA.ofNew hb1 10 5).more (fun q hq => hq.elim))
  obtain ⟨T, hT⟩ : ∃ T, w1.heap.size = T := ⟨_, rfl⟩
  rw [hT] at HO ⊢
  clear hw2 hT hb1
  go_wp2_with fail
  go_loopw [8, 9, 10] (fun la no i wr => ∃ (k : Nat) (now last at_ : Int) (ann : Bool), k ≤ nt ∧ k ≤ 30 ∧ i = .int .i64 (k : Int) ∧ no = .int .i64 now ∧ la = .int .i64 last ∧ 0 ≤ now ∧ now ≤ 8 * (k : Int) ∧ ((ann = false ∧ last = -100 ∧ at_ = 0) ∨ (ann = true ∧ at_ = last ∧ 0 ≤ last ∧ last ≤ now)) ∧ OneA w T ⟨10, 5, ann, at_⟩ [] (fun _ => False) wr) (fun _ _ i _ => 30 - (Go.RowKit.intOf i).toNat)
  case atStart => exact ⟨0, 0, -100, 0, false, by omega, by omega, rfl, rfl, rfl, by omega, by omega, .inl ⟨rfl, rfl, rfl⟩, HO.out⟩
  case round =>
    clear HO
    obtain ⟨k, now, last, at_, ann, hk, hk30, rfl, rfl, rfl, hn0, hn1, hinv, ho⟩ := hrel
    have HO := Lib.hid ho; have HINV := Lib.hid hinv; clear ho hinv
    obtain ⟨wx, rfl⟩ : ∃ wo : World, wo = wr := ⟨_, rfl⟩
    by_cases hend : k = nt ∨ k = 30
    · have HB := Lib.hid HO.out.bel
      by_cases q : k = nt
      · have d1 : decide ((k : Int) < (nt : Int)) = false := decide_eq_false (by omega)
        have q1 : ¬ k < nt := by omega
        go_wp2_with fail
        all_goals first | (go_ret; exact ⟨rfl, HB.out⟩) | (exfalso; omega)
      · have d1 : decide ((k : Int) < (nt : Int)) = true := decide_eq_true (by omega)
        have q1 : k < nt := by omega
        have d2 : decide ((k : Int) < 30) = false := decide_eq_false (by omega)
        have q2 : ¬ k < 30 := by omega
        go_wp2_with fail
        all_goals first | (exfalso; omega) | (go_ret; exact ⟨rfl, HB.out⟩)
    · have d1 : decide ((k : Int) < (nt : Int)) = true := decide_eq_true (by omega)
      have d2 : decide ((k : Int) < 30) = true := decide_eq_true (by omega)
      have k0 : (0 : Int) ≤ (k : Int) := by omega
      have k1 : (k : Int) < (nt : Int) := by omega
      obtain ⟨ab, ao, x, hAe, htl, hab, hx, hcell⟩ := (HA.out.below HO.out.bel).at_ k (by omega)
      subst hAe
      have P8 := Lib.hid (fun W => pick_any x 8 W hx (by omega) (by omega))
      have hp8 := pick_lt x 8 (by omega)
      obtain ⟨z8, hz8⟩ : ∃ z, pick x 8 = z := ⟨_, rfl⟩
      rw [hz8] at P8 hp8
      have hw8 : IntKind.i64.wrap (now + z8) = now + z8 := IntWalk.i64_in _ (by omega)
      clear hz8 htl
      go_upto_region 9 with (go_at_call 18; (with_reducible refine (P8.out _).mono ?_); rintro e w' ⟨rfl, rfl⟩)
      have hx9 : In64 (x.tdiv 8) := by
        unfold In64
        have h1 := Int.tdiv_eq_ediv (a := x) (b := 8)
        rw [show Int.sign 8 = 1 from rfl] at h1
        split at h1 <;> omega
      have P9 := Lib.hid (fun W => pick_any (x.tdiv 8) 9 W hx9 (by omega) (by omega))
      have hp9 := pick_lt (x.tdiv 8) 9 (by omega)
      obtain ⟨z9, hz9⟩ : ∃ z, pick (x.tdiv 8) 9 = z := ⟨_, rfl⟩
      rw [hz9] at P9 hp9
      have hw9 : IntKind.i64.wrap (1 + z9) = 1 + z9 := IntWalk.i64_in _ (by omega)
      have hw3 : IntKind.i64.wrap (10 + z3) = 10 + z3 := IntWalk.i64_in _ (by omega)
      clear hz9 hx9
      go_upto_region 10 with (go_at_call 18; (with_reducible refine (P9.out _).mono ?_); rintro e w' ⟨rfl, rfl⟩)
      obtain ⟨nw, hnw⟩ : ∃ nw, now + z8 = nw := ⟨_, rfl⟩
      obtain ⟨m, hm⟩ : ∃ m, 1 + z9 = m := ⟨_, rfl⟩
      obtain ⟨to_, hto⟩ : ∃ to_, 10 + z3 = to_ := ⟨_, rfl⟩
      rw [hnw, hm]
      have hw3 : IntKind.i64.wrap (10 + z3) = to_ := hw3.trans hto
      have hmb : 1 ≤ m ∧ m ≤ 9 := by omega
      have htb : 10 ≤ to_ ∧ to_ ≤ 12 := by omega
      have hnb : now ≤ nw ∧ nw ≤ now + 7 := by omega
      have HTO := Lib.hid hto
      clear hw8 hw9 hcell hm hnw P9 P8 hp8 hp9 hto
      go_wp2_with fail
      refine (P3.out _).mono ?_
      rintro e w' ⟨rfl, rfl⟩
      go_wp2_with fail
      rw [HTO.out]
      have hlb : -100 ≤ last ∧ last ≤ now := by rcases HINV.out with ⟨-, q, -⟩ | ⟨-, -, q, q2⟩ <;> omega
      have hat : In64 at_ := by unfold In64; rcases HINV.out with ⟨-, -, q⟩ | ⟨-, q, -, -⟩ <;> omega
      have hcase : (recvA ⟨10, 5, ann, at_⟩ [] nw ⟨1, 10, m, to_, 0⟩ = (⟨10, 5, ann, at_⟩, [], [], []) ∧ (m = 5 ∨ (m ≠ 5 ∧ nw - last < 10))) ∨ (recvA ⟨10, 5, ann, at_⟩ [] nw ⟨1, 10, m, to_, 0⟩ = (⟨10, 5, true, nw⟩, [], [⟨1, 10, 5, 10, 0⟩], []) ∧ m ≠ 5 ∧ 10 ≤ nw - last) := by
        rw [recv_own ⟨10, 5, ann, at_⟩ [] nw m to_ rfl rfl hmb htb]
        by_cases h5 : m = 5
        · rw [if_pos h5]; exact .inl ⟨rfl, .inl h5⟩
        · rw [if_neg h5]
          rcases HINV.out with ⟨rfl, q, -⟩ | ⟨rfl, q, q1, q2⟩
          · exact .inr ⟨rfl, h5, by omega⟩
          · subst q
            by_cases q3 : 10 ≤ nw - at_
            · have e : agedB nw at_ 10 = true := decide_eq_true ⟨by omega, q3⟩
              exact .inr ⟨by unfold defA; dsimp only; rw [e]; rfl, h5, q3⟩
            · have e : agedB nw at_ 10 = false := decide_eq_false (fun q => q3 q.2)
              exact .inl ⟨by unfold defA; dsimp only; rw [e]; rfl, .inr ⟨h5, by omega⟩⟩
      have hws : IntKind.i64.wrap (nw - last) = nw - last := IntWalk.i64_in _ (by omega)
      have HLB := Lib.hid hlb
      have HNB := Lib.hid hnb
      clear HTO
      rcases hcase with ⟨he, hno⟩ | ⟨he, hm5, hge⟩
      · refine (HO.out.recv nw 1 10 m to_ 0 _ _ _ _ he (by unfold In64; omega) hat).mono ?_
        rintro x9 w9 ⟨B, kb, D, kd, rfl, -, -, ho, -⟩
        have HO9 := Lib.hid (ho.more (K' := fun _ => False) (fun q hq => hq.elim))
        clear ho he HO
        rcases hno with h5 | ⟨h5, hlt⟩
        · have c1 : (m != 5) = false := by simpa using h5
          go_wp2_with fail
          go_roundw
          case rel => exact ⟨k + 1, nw, last, at_, ann, by omega, by omega, by go_num, rfl, rfl, by omega, by omega, HINV.out.imp id (fun ⟨a, b, c, d⟩ => ⟨a, b, c, by omega⟩), HO9.out⟩
          case measure => simp [Go.RowKit.intOf]; omega
        · have c1 : (m != 5) = true := by simpa using h5
          have c2 : decide (10 ≤ nw - last) = false := decide_eq_false (by omega)
          have c3 : nw - last < 10 := hlt
          go_wp2_with fail
          all_goals first | (exfalso; omega) | skip
          go_roundw
          case rel => exact ⟨k + 1, nw, last, at_, ann, by omega, by omega, by go_num, rfl, rfl, by omega, by omega, HINV.out.imp id (fun ⟨a, b, c, d⟩ => ⟨a, b, c, by omega⟩), HO9.out⟩
          case measure => simp [Go.RowKit.intOf]; omega
      · refine (HO.out.recv nw 1 10 m to_ 0 _ _ _ _ he (by unfold In64; omega) hat).mono ?_
        rintro x9 w9 ⟨B, kb, D, kd, rfl, hrow, -, ho, -⟩
        have HO9 := Lib.hid (ho.more (K' := fun _ => False) (fun q hq => hq.elim))
        obtain ⟨g, rfl, -⟩ := hrow.addr (by simp)
        obtain ⟨r0, r1, r2, r3, r4⟩ := MRow.cells hrow (i := 0) rfl
        clear ho he HO
        have c1 : (m != 5) = true := by simpa using hm5
        have c2 : decide (10 ≤ nw - last) = true := decide_eq_true hge
        have heq := eqAm ⟨1, 10, 5, 10, 0⟩ ⟨1, 10, 5, 10, 0⟩
        rw [show amEqB ⟨1, 10, 5, 10, 0⟩ ⟨1, 10, 5, 10, 0⟩ = true from rfl] at heq
        clear hrow
        go_wp2_with fail
        all_goals first | (exfalso; omega) | skip
        go_roundw
        case rel => exact ⟨k + 1, nw, nw, nw, true, by omega, by omega, by go_num, rfl, rfl, by omega, by omega, .inr ⟨rfl, rfl, by omega, Int.le_refl _⟩, HO9.out⟩
        case measure => simp [Go.RowKit.intOf]; omega
end Go.Proofs.Ytjdoemmfemogmaa.Ar
