/-
  Contracts of package wire: Put and Get at every argument. Put makes two new blocks; nothing that was there is changed.
-/
import Derived.Test.YtmgjcjacoegocaaDoorRows
import Derived.Test.YtmgjcjacoegocaaDoorWireBase
namespace Go.Proofs.YtmgjcjacoegocaaDoor.Wire
set_option maxRecDepth 100000
open Go.RowKit

theorem sizeU8 : (Tryd.prog.info? 5).map (·.size) = some 1 := by kernel_rfl

theorem be1 (n : Int) (h0 : 0 ≤ n) (h1 : n < 256) : ([n] : List Int).map (fun n => UInt8.ofNat n.toNat) = be 1 n := by
  have e0 : (n) % 256 = n := by omega
  simp [be, byte, e0]
set_option maxHeartbeats 400000 in
theorem put1 (n : Int) (w : World) (h0 : 0 ≤ n) (h1 : n < 256) :
    Calls Tryd.prog 70 #[.int .i64 n, .int .i64 1] w fun e w' => e = .returned (.tuple #[S (be 1 n), .int .i64 0]) ∧ Below w.heap.size w w' := by
  have hmk : ∀ w, (Instr.makeSlice 88 (.int .i64 1) (.int .i64 1)).run Tryd.prog w = .ok (.slice (some ⟨w.heap.size, 0, none⟩) 1 1) (w.alloc (.cells #[.int .u8 0] 5)) := fun _ => by kernel_rfl
  have hcp : (Builtin.copy_ #[88, 88] 3 #[.slice (some ⟨w.heap.size + 1, 0, none⟩) 1 1, .slice (some ⟨w.heap.size, 3, none⟩) 1 1]).run Tryd.prog ((w.alloc (.cells #[.int .u8 (n / 16777216), .int .u8 (n / 65536), .int .u8 (n / 256), .int .u8 n] 186)).alloc (.cells #[.int .u8 0] 5)) = .ok (.int .i64 1) ((w.alloc (.cells #[.int .u8 (n / 16777216), .int .u8 (n / 65536), .int .u8 (n / 256), .int .u8 n] 186)).alloc (.cells #[.int .u8 n] 5)) :=
    copy_new (P := Tryd.prog) w _ _ _ _ _ _ 3 1 Tryd.underlying88 sizeU8 rfl rfl (by simp [Value.oneCell'])
  have hcv : ∀ o, (convert 88 9 (.slice (some ⟨w.heap.size + 1, 0, none⟩) 1 1)).run Tryd.prog ((w.alloc o).alloc (.cells #[.int .u8 n] 5)) = .ok (S (be 1 n)) ((w.alloc o).alloc (.cells #[.int .u8 n] 5)) := by
    intro o
    rw [run_convert_bytes_arg _ 88 5 Tryd.underlying88 Tryd.underlying5 (w.heap.size + 1) 0 1 1 [n] rfl ?_ 9 Tryd.underlying9]
    · have hl := be1 n h0 h1
      show Result.ok (Value.string ⟨(([n] : List Int).map fun n => UInt8.ofNat n.toNat).toArray⟩) _ = _
      rw [hl]; rfl
    · intro i hi
      rw [Nat.zero_add]
      simp only [World.cell?, heap_new2]
      have hi' : i = 0 := by omega
      rcases hi' with rfl <;> rfl
  have hsh : (n / 256 != 0) = false := by simp; omega
  go_enter Tryd.func70, Tryd.ntmps70
  go_wp2
  go_ret2
  exact ⟨rfl, ((Below.refl _ _).alloc (Nat.le_refl _) _).alloc (by simp) _⟩

theorem be2 (n : Int) (h0 : 0 ≤ n) (h1 : n < 65536) : ([(n / 256), (n % 256)] : List Int).map (fun n => UInt8.ofNat n.toNat) = be 2 n := by
  have e0 : (n / 256) % 256 = (n / 256) := by omega
  simp [be, byte, e0]
set_option maxHeartbeats 400000 in
theorem put2 (n : Int) (w : World) (h0 : 0 ≤ n) (h1 : n < 65536) :
    Calls Tryd.prog 70 #[.int .i64 n, .int .i64 2] w fun e w' => e = .returned (.tuple #[S (be 2 n), .int .i64 0]) ∧ Below w.heap.size w w' := by
  have hmk : ∀ w, (Instr.makeSlice 88 (.int .i64 2) (.int .i64 2)).run Tryd.prog w = .ok (.slice (some ⟨w.heap.size, 0, none⟩) 2 2) (w.alloc (.cells #[.int .u8 0, .int .u8 0] 5)) := fun _ => by kernel_rfl
  have hcp : (Builtin.copy_ #[88, 88] 3 #[.slice (some ⟨w.heap.size + 1, 0, none⟩) 2 2, .slice (some ⟨w.heap.size, 2, none⟩) 2 2]).run Tryd.prog ((w.alloc (.cells #[.int .u8 (n / 16777216), .int .u8 (n / 65536), .int .u8 (n / 256), .int .u8 (n % 256)] 186)).alloc (.cells #[.int .u8 0, .int .u8 0] 5)) = .ok (.int .i64 2) ((w.alloc (.cells #[.int .u8 (n / 16777216), .int .u8 (n / 65536), .int .u8 (n / 256), .int .u8 (n % 256)] 186)).alloc (.cells #[.int .u8 (n / 256), .int .u8 (n % 256)] 5)) :=
    copy_new (P := Tryd.prog) w _ _ _ _ _ _ 2 2 Tryd.underlying88 sizeU8 rfl rfl (by simp [Value.oneCell'])
  have hcv : ∀ o, (convert 88 9 (.slice (some ⟨w.heap.size + 1, 0, none⟩) 2 2)).run Tryd.prog ((w.alloc o).alloc (.cells #[.int .u8 (n / 256), .int .u8 (n % 256)] 5)) = .ok (S (be 2 n)) ((w.alloc o).alloc (.cells #[.int .u8 (n / 256), .int .u8 (n % 256)] 5)) := by
    intro o
    rw [run_convert_bytes_arg _ 88 5 Tryd.underlying88 Tryd.underlying5 (w.heap.size + 1) 0 2 2 [(n / 256), (n % 256)] rfl ?_ 9 Tryd.underlying9]
    · have hl := be2 n h0 h1
      show Result.ok (Value.string ⟨(([(n / 256), (n % 256)] : List Int).map fun n => UInt8.ofNat n.toNat).toArray⟩) _ = _
      rw [hl]; rfl
    · intro i hi
      rw [Nat.zero_add]
      simp only [World.cell?, heap_new2]
      have hi' : i = 0 ∨ i = 1 := by omega
      rcases hi' with rfl | rfl <;> rfl
  have hsh : (n / 65536 != 0) = false := by simp; omega
  go_enter Tryd.func70, Tryd.ntmps70
  go_wp2
  go_ret2
  exact ⟨rfl, ((Below.refl _ _).alloc (Nat.le_refl _) _).alloc (by simp) _⟩

theorem be3 (n : Int) (h0 : 0 ≤ n) (h1 : n < 16777216) : ([(n / 65536), (n / 256 % 256), (n % 256)] : List Int).map (fun n => UInt8.ofNat n.toNat) = be 3 n := by
  have e0 : (n / 256 / 256) % 256 = (n / 65536) := by omega
  simp [be, byte, e0]
set_option maxHeartbeats 400000 in
theorem put3 (n : Int) (w : World) (h0 : 0 ≤ n) (h1 : n < 16777216) :
    Calls Tryd.prog 70 #[.int .i64 n, .int .i64 3] w fun e w' => e = .returned (.tuple #[S (be 3 n), .int .i64 0]) ∧ Below w.heap.size w w' := by
  have hmk : ∀ w, (Instr.makeSlice 88 (.int .i64 3) (.int .i64 3)).run Tryd.prog w = .ok (.slice (some ⟨w.heap.size, 0, none⟩) 3 3) (w.alloc (.cells #[.int .u8 0, .int .u8 0, .int .u8 0] 5)) := fun _ => by kernel_rfl
  have hcp : (Builtin.copy_ #[88, 88] 3 #[.slice (some ⟨w.heap.size + 1, 0, none⟩) 3 3, .slice (some ⟨w.heap.size, 1, none⟩) 3 3]).run Tryd.prog ((w.alloc (.cells #[.int .u8 (n / 16777216), .int .u8 (n / 65536), .int .u8 (n / 256 % 256), .int .u8 (n % 256)] 186)).alloc (.cells #[.int .u8 0, .int .u8 0, .int .u8 0] 5)) = .ok (.int .i64 3) ((w.alloc (.cells #[.int .u8 (n / 16777216), .int .u8 (n / 65536), .int .u8 (n / 256 % 256), .int .u8 (n % 256)] 186)).alloc (.cells #[.int .u8 (n / 65536), .int .u8 (n / 256 % 256), .int .u8 (n % 256)] 5)) :=
    copy_new (P := Tryd.prog) w _ _ _ _ _ _ 1 3 Tryd.underlying88 sizeU8 rfl rfl (by simp [Value.oneCell'])
  have hcv : ∀ o, (convert 88 9 (.slice (some ⟨w.heap.size + 1, 0, none⟩) 3 3)).run Tryd.prog ((w.alloc o).alloc (.cells #[.int .u8 (n / 65536), .int .u8 (n / 256 % 256), .int .u8 (n % 256)] 5)) = .ok (S (be 3 n)) ((w.alloc o).alloc (.cells #[.int .u8 (n / 65536), .int .u8 (n / 256 % 256), .int .u8 (n % 256)] 5)) := by
    intro o
    rw [run_convert_bytes_arg _ 88 5 Tryd.underlying88 Tryd.underlying5 (w.heap.size + 1) 0 3 3 [(n / 65536), (n / 256 % 256), (n % 256)] rfl ?_ 9 Tryd.underlying9]
    · have hl := be3 n h0 h1
      show Result.ok (Value.string ⟨(([(n / 65536), (n / 256 % 256), (n % 256)] : List Int).map fun n => UInt8.ofNat n.toNat).toArray⟩) _ = _
      rw [hl]; rfl
    · intro i hi
      rw [Nat.zero_add]
      simp only [World.cell?, heap_new2]
      have hi' : i = 0 ∨ i = 1 ∨ i = 2 := by omega
      rcases hi' with rfl | rfl | rfl <;> rfl
  have hsh : (n / 16777216 != 0) = false := by simp; omega
  go_enter Tryd.func70, Tryd.ntmps70
  go_wp2
  go_ret2
  exact ⟨rfl, ((Below.refl _ _).alloc (Nat.le_refl _) _).alloc (by simp) _⟩

theorem be4 (n : Int) (h0 : 0 ≤ n) (h1 : n < 4294967296) : ([(n / 16777216), (n / 65536 % 256), (n / 256 % 256), (n % 256)] : List Int).map (fun n => UInt8.ofNat n.toNat) = be 4 n := by
  have e0 : (n / 256 / 256 / 256) % 256 = (n / 16777216) := by omega
  have e1 : (n / 256 / 256) % 256 = (n / 65536 % 256) := by omega
  simp [be, byte, e0, e1]
set_option maxHeartbeats 400000 in
theorem put4 (n : Int) (w : World) (h0 : 0 ≤ n) (h1 : n < 4294967296) :
    Calls Tryd.prog 70 #[.int .i64 n, .int .i64 4] w fun e w' => e = .returned (.tuple #[S (be 4 n), .int .i64 0]) ∧ Below w.heap.size w w' := by
  have hmk : ∀ w, (Instr.makeSlice 88 (.int .i64 4) (.int .i64 4)).run Tryd.prog w = .ok (.slice (some ⟨w.heap.size, 0, none⟩) 4 4) (w.alloc (.cells #[.int .u8 0, .int .u8 0, .int .u8 0, .int .u8 0] 5)) := fun _ => by kernel_rfl
  have hcp : (Builtin.copy_ #[88, 88] 3 #[.slice (some ⟨w.heap.size + 1, 0, none⟩) 4 4, .slice (some ⟨w.heap.size, 0, none⟩) 4 4]).run Tryd.prog ((w.alloc (.cells #[.int .u8 (n / 16777216), .int .u8 (n / 65536 % 256), .int .u8 (n / 256 % 256), .int .u8 (n % 256)] 186)).alloc (.cells #[.int .u8 0, .int .u8 0, .int .u8 0, .int .u8 0] 5)) = .ok (.int .i64 4) ((w.alloc (.cells #[.int .u8 (n / 16777216), .int .u8 (n / 65536 % 256), .int .u8 (n / 256 % 256), .int .u8 (n % 256)] 186)).alloc (.cells #[.int .u8 (n / 16777216), .int .u8 (n / 65536 % 256), .int .u8 (n / 256 % 256), .int .u8 (n % 256)] 5)) :=
    copy_new (P := Tryd.prog) w _ _ _ _ _ _ 0 4 Tryd.underlying88 sizeU8 rfl rfl (by simp [Value.oneCell'])
  have hcv : ∀ o, (convert 88 9 (.slice (some ⟨w.heap.size + 1, 0, none⟩) 4 4)).run Tryd.prog ((w.alloc o).alloc (.cells #[.int .u8 (n / 16777216), .int .u8 (n / 65536 % 256), .int .u8 (n / 256 % 256), .int .u8 (n % 256)] 5)) = .ok (S (be 4 n)) ((w.alloc o).alloc (.cells #[.int .u8 (n / 16777216), .int .u8 (n / 65536 % 256), .int .u8 (n / 256 % 256), .int .u8 (n % 256)] 5)) := by
    intro o
    rw [run_convert_bytes_arg _ 88 5 Tryd.underlying88 Tryd.underlying5 (w.heap.size + 1) 0 4 4 [(n / 16777216), (n / 65536 % 256), (n / 256 % 256), (n % 256)] rfl ?_ 9 Tryd.underlying9]
    · have hl := be4 n h0 h1
      show Result.ok (Value.string ⟨(([(n / 16777216), (n / 65536 % 256), (n / 256 % 256), (n % 256)] : List Int).map fun n => UInt8.ofNat n.toNat).toArray⟩) _ = _
      rw [hl]; rfl
    · intro i hi
      rw [Nat.zero_add]
      simp only [World.cell?, heap_new2]
      have hi' : i = 0 ∨ i = 1 ∨ i = 2 ∨ i = 3 := by omega
      rcases hi' with rfl | rfl | rfl | rfl <;> rfl
  have hsh : (n / 4294967296 != 0) = false := by simp; omega
  go_enter Tryd.func70, Tryd.ntmps70
  go_wp2
  go_ret2
  exact ⟨rfl, ((Below.refl _ _).alloc (Nat.le_refl _) _).alloc (by simp) _⟩

theorem num1 (b0 : UInt8) : num [b0] = b0.toNat * 1 := by
  simp [num]
set_option maxHeartbeats 400000 in
theorem get1 (s : ByteArray) (a : Int) (b0 : UInt8) (w : World) (h0 : 0 ≤ a) (h1 : a + 1 ≤ s.size) (hm : s.size ≤ 9223372036854775807) (hb : (s.extract a.toNat (a.toNat + 1)).data.toList = [b0]) :
    Calls Tryd.prog 52 #[.string s, .int .i64 a, .int .i64 1] w fun e w' => e = .returned (.tuple #[.int .i64 (num [b0]), .int .i64 0]) ∧ ∃ cs, w' = (w.alloc (.cells cs 186)).drew := by
  obtain ⟨a, rfl⟩ := Int.eq_ofNat_of_zero_le h0
  rw [Int.toNat_natCast] at hb
  have hcp := copy_str (P := Tryd.prog) w 88 9 3 5 186 #[.int .u8 0, .int .u8 0, .int .u8 0, .int .u8 0] 3 1 (s.extract a (a + 1)) Tryd.underlying88 sizeU8 (by simp; omega) rfl
  rw [hb] at hcp
  simp only [List.take, cellsOf, List.map, List.cons_append, List.nil_append] at hcp
  have hcp' : (Builtin.copy_ #[88, 9] 3 #[.slice (some ⟨w.heap.size, 3, none⟩) 1 1, .string (s.extract a (a + 1))]).run Tryd.prog (w.alloc (.cells #[.int .u8 0, .int .u8 0, .int .u8 0, .int .u8 0] 186)).drew = .ok (.int .i64 1) (w.alloc (.cells #[.int .u8 0, .int .u8 0, .int .u8 0, .int .u8 b0.toNat] 186)).drew := hcp
  clear hb hcp
  have hb0 := u8_bd b0
  have ho := or_bytes 0 0 0 ((b0.toNat : Nat) : Int) (by omega) (by omega) (by omega) (u8_bd b0)
  have Ho := Lib.hid ho
  clear ho
  go_enter Tryd.func52, Tryd.ntmps52
  go_wp2
  go_region
  go_wp2
  go_ret2
  refine ⟨ret2_int ?_, _, rfl⟩
  have := Ho.out
  simp only [Int.zero_mul, Int.zero_add] at this
  rw [num1]
  exact this.trans (by omega)

theorem num2 (b0 b1 : UInt8) : num [b0, b1] = b0.toNat * 256 + b1.toNat * 1 := by
  simp [num]
set_option maxHeartbeats 400000 in
theorem get2 (s : ByteArray) (a : Int) (b0 b1 : UInt8) (w : World) (h0 : 0 ≤ a) (h1 : a + 2 ≤ s.size) (hm : s.size ≤ 9223372036854775807) (hb : (s.extract a.toNat (a.toNat + 2)).data.toList = [b0, b1]) :
    Calls Tryd.prog 52 #[.string s, .int .i64 a, .int .i64 2] w fun e w' => e = .returned (.tuple #[.int .i64 (num [b0, b1]), .int .i64 0]) ∧ ∃ cs, w' = (w.alloc (.cells cs 186)).drew := by
  obtain ⟨a, rfl⟩ := Int.eq_ofNat_of_zero_le h0
  rw [Int.toNat_natCast] at hb
  have hcp := copy_str (P := Tryd.prog) w 88 9 3 5 186 #[.int .u8 0, .int .u8 0, .int .u8 0, .int .u8 0] 2 2 (s.extract a (a + 2)) Tryd.underlying88 sizeU8 (by simp; omega) rfl
  rw [hb] at hcp
  simp only [List.take, cellsOf, List.map, List.cons_append, List.nil_append] at hcp
  have hcp' : (Builtin.copy_ #[88, 9] 3 #[.slice (some ⟨w.heap.size, 2, none⟩) 2 2, .string (s.extract a (a + 2))]).run Tryd.prog (w.alloc (.cells #[.int .u8 0, .int .u8 0, .int .u8 0, .int .u8 0] 186)).drew = .ok (.int .i64 2) (w.alloc (.cells #[.int .u8 0, .int .u8 0, .int .u8 b0.toNat, .int .u8 b1.toNat] 186)).drew := hcp
  clear hb hcp
  have hb0 := u8_bd b0; have hb1 := u8_bd b1
  have ho := or_bytes 0 0 ((b0.toNat : Nat) : Int) ((b1.toNat : Nat) : Int) (by omega) (by omega) (u8_bd b0) (u8_bd b1)
  have Ho := Lib.hid ho
  clear ho
  go_enter Tryd.func52, Tryd.ntmps52
  go_wp2
  go_region
  go_wp2
  go_ret2
  refine ⟨ret2_int ?_, _, rfl⟩
  have := Ho.out
  simp only [Int.zero_mul, Int.zero_add] at this
  rw [num2]
  exact this.trans (by omega)

theorem num3 (b0 b1 b2 : UInt8) : num [b0, b1, b2] = b0.toNat * 65536 + b1.toNat * 256 + b2.toNat * 1 := by
  simp [num]; omega
set_option maxHeartbeats 400000 in
theorem get3 (s : ByteArray) (a : Int) (b0 b1 b2 : UInt8) (w : World) (h0 : 0 ≤ a) (h1 : a + 3 ≤ s.size) (hm : s.size ≤ 9223372036854775807) (hb : (s.extract a.toNat (a.toNat + 3)).data.toList = [b0, b1, b2]) :
    Calls Tryd.prog 52 #[.string s, .int .i64 a, .int .i64 3] w fun e w' => e = .returned (.tuple #[.int .i64 (num [b0, b1, b2]), .int .i64 0]) ∧ ∃ cs, w' = (w.alloc (.cells cs 186)).drew := by
  obtain ⟨a, rfl⟩ := Int.eq_ofNat_of_zero_le h0
  rw [Int.toNat_natCast] at hb
  have hcp := copy_str (P := Tryd.prog) w 88 9 3 5 186 #[.int .u8 0, .int .u8 0, .int .u8 0, .int .u8 0] 1 3 (s.extract a (a + 3)) Tryd.underlying88 sizeU8 (by simp; omega) rfl
  rw [hb] at hcp
  simp only [List.take, cellsOf, List.map, List.cons_append, List.nil_append] at hcp
  have hcp' : (Builtin.copy_ #[88, 9] 3 #[.slice (some ⟨w.heap.size, 1, none⟩) 3 3, .string (s.extract a (a + 3))]).run Tryd.prog (w.alloc (.cells #[.int .u8 0, .int .u8 0, .int .u8 0, .int .u8 0] 186)).drew = .ok (.int .i64 3) (w.alloc (.cells #[.int .u8 0, .int .u8 b0.toNat, .int .u8 b1.toNat, .int .u8 b2.toNat] 186)).drew := hcp
  clear hb hcp
  have hb0 := u8_bd b0; have hb1 := u8_bd b1; have hb2 := u8_bd b2
  have ho := or_bytes 0 ((b0.toNat : Nat) : Int) ((b1.toNat : Nat) : Int) ((b2.toNat : Nat) : Int) (by omega) (u8_bd b0) (u8_bd b1) (u8_bd b2)
  have Ho := Lib.hid ho
  clear ho
  go_enter Tryd.func52, Tryd.ntmps52
  go_wp2
  go_region
  go_wp2
  go_ret2
  refine ⟨ret2_int ?_, _, rfl⟩
  have := Ho.out
  simp only [Int.zero_mul, Int.zero_add] at this
  rw [num3]
  exact this.trans (by omega)

theorem num4 (b0 b1 b2 b3 : UInt8) : num [b0, b1, b2, b3] = b0.toNat * 16777216 + b1.toNat * 65536 + b2.toNat * 256 + b3.toNat * 1 := by
  simp [num]; omega
set_option maxHeartbeats 400000 in
theorem get4 (s : ByteArray) (a : Int) (b0 b1 b2 b3 : UInt8) (w : World) (h0 : 0 ≤ a) (h1 : a + 4 ≤ s.size) (hm : s.size ≤ 9223372036854775807) (hb : (s.extract a.toNat (a.toNat + 4)).data.toList = [b0, b1, b2, b3]) :
    Calls Tryd.prog 52 #[.string s, .int .i64 a, .int .i64 4] w fun e w' => e = .returned (.tuple #[.int .i64 (num [b0, b1, b2, b3]), .int .i64 0]) ∧ ∃ cs, w' = (w.alloc (.cells cs 186)).drew := by
  obtain ⟨a, rfl⟩ := Int.eq_ofNat_of_zero_le h0
  rw [Int.toNat_natCast] at hb
  have hcp := copy_str (P := Tryd.prog) w 88 9 3 5 186 #[.int .u8 0, .int .u8 0, .int .u8 0, .int .u8 0] 0 4 (s.extract a (a + 4)) Tryd.underlying88 sizeU8 (by simp; omega) rfl
  rw [hb] at hcp
  simp only [List.take, cellsOf, List.map, List.nil_append] at hcp
  have hcp' : (Builtin.copy_ #[88, 9] 3 #[.slice (some ⟨w.heap.size, 0, none⟩) 4 4, .string (s.extract a (a + 4))]).run Tryd.prog (w.alloc (.cells #[.int .u8 0, .int .u8 0, .int .u8 0, .int .u8 0] 186)).drew = .ok (.int .i64 4) (w.alloc (.cells #[.int .u8 b0.toNat, .int .u8 b1.toNat, .int .u8 b2.toNat, .int .u8 b3.toNat] 186)).drew := hcp
  clear hb hcp
  have hb0 := u8_bd b0; have hb1 := u8_bd b1; have hb2 := u8_bd b2; have hb3 := u8_bd b3
  have ho := or_bytes ((b0.toNat : Nat) : Int) ((b1.toNat : Nat) : Int) ((b2.toNat : Nat) : Int) ((b3.toNat : Nat) : Int) (u8_bd b0) (u8_bd b1) (u8_bd b2) (u8_bd b3)
  have Ho := Lib.hid ho
  clear ho
  go_enter Tryd.func52, Tryd.ntmps52
  go_wp2
  go_region
  go_wp2
  go_ret2
  refine ⟨ret2_int ?_, _, rfl⟩
  have := Ho.out
  
  rw [num4]
  exact this.trans (by omega)


/-- bytes a .. a+k-1 of s -/
def bytesAt (s : ByteArray) (a k : Nat) : List UInt8 := (s.data.toList.drop a).take k
theorem extract_bytesAt (s : ByteArray) (a k : Nat) : (s.extract a (a + k)).data.toList = bytesAt s a k := by
  simp [bytesAt, ByteArray.data_extract, Array.toList_extract]
theorem bytesAt_length (s : ByteArray) (a k : Nat) (h : a + k ≤ s.size) : (bytesAt s a k).length = k := by
  have : s.data.toList.length = s.size := rfl
  simp only [bytesAt, List.length_take, List.length_drop]; omega
theorem len1 (l : List UInt8) (h : l.length = 1) : ∃ b0, l = [b0] := by
  match l, h with
  | [b0], _ => exact ⟨b0, rfl⟩
theorem getx1 (s : ByteArray) (a : Int) (w : World) (h0 : 0 ≤ a) (h1 : a + 1 ≤ s.size) (hm : s.size ≤ 9223372036854775807) :
    Calls Tryd.prog 52 #[.string s, .int .i64 a, .int .i64 1] w fun e w' => e = .returned (.tuple #[.int .i64 (num (bytesAt s a.toNat 1)), .int .i64 0]) ∧ ∃ cs, w' = (w.alloc (.cells cs 186)).drew := by
  obtain ⟨b0, h⟩ := len1 _ (bytesAt_length s a.toNat 1 (by omega))
  rw [h]
  exact get1 s a b0 w h0 h1 hm ((extract_bytesAt s a.toNat 1).trans h)
theorem getv1 (s : ByteArray) (a : Int) (w : World) (h0 : 0 ≤ a) (h1 : a + 1 ≤ s.size) (hm : s.size ≤ 9223372036854775807) :
    Calls Tryd.prog 52 #[.string s, .int .i64 a, .int .i64 1] w fun e w' => e = .returned (.tuple #[.int .i64 (num (bytesAt s a.toNat 1)), .int .i64 0]) ∧ Below w.heap.size w w' :=
  (getx1 s a w h0 h1 hm).mono fun _ _ ⟨he, _, hw⟩ => ⟨he, by rw [hw]; exact ((Below.refl _ _).alloc (Nat.le_refl _) _).drew⟩
theorem len2 (l : List UInt8) (h : l.length = 2) : ∃ b0 b1, l = [b0, b1] := by
  match l, h with
  | [b0, b1], _ => exact ⟨b0, b1, rfl⟩
theorem getx2 (s : ByteArray) (a : Int) (w : World) (h0 : 0 ≤ a) (h1 : a + 2 ≤ s.size) (hm : s.size ≤ 9223372036854775807) :
    Calls Tryd.prog 52 #[.string s, .int .i64 a, .int .i64 2] w fun e w' => e = .returned (.tuple #[.int .i64 (num (bytesAt s a.toNat 2)), .int .i64 0]) ∧ ∃ cs, w' = (w.alloc (.cells cs 186)).drew := by
  obtain ⟨b0, b1, h⟩ := len2 _ (bytesAt_length s a.toNat 2 (by omega))
  rw [h]
  exact get2 s a b0 b1 w h0 h1 hm ((extract_bytesAt s a.toNat 2).trans h)
theorem getv2 (s : ByteArray) (a : Int) (w : World) (h0 : 0 ≤ a) (h1 : a + 2 ≤ s.size) (hm : s.size ≤ 9223372036854775807) :
    Calls Tryd.prog 52 #[.string s, .int .i64 a, .int .i64 2] w fun e w' => e = .returned (.tuple #[.int .i64 (num (bytesAt s a.toNat 2)), .int .i64 0]) ∧ Below w.heap.size w w' :=
  (getx2 s a w h0 h1 hm).mono fun _ _ ⟨he, _, hw⟩ => ⟨he, by rw [hw]; exact ((Below.refl _ _).alloc (Nat.le_refl _) _).drew⟩
theorem len3 (l : List UInt8) (h : l.length = 3) : ∃ b0 b1 b2, l = [b0, b1, b2] := by
  match l, h with
  | [b0, b1, b2], _ => exact ⟨b0, b1, b2, rfl⟩
theorem getx3 (s : ByteArray) (a : Int) (w : World) (h0 : 0 ≤ a) (h1 : a + 3 ≤ s.size) (hm : s.size ≤ 9223372036854775807) :
    Calls Tryd.prog 52 #[.string s, .int .i64 a, .int .i64 3] w fun e w' => e = .returned (.tuple #[.int .i64 (num (bytesAt s a.toNat 3)), .int .i64 0]) ∧ ∃ cs, w' = (w.alloc (.cells cs 186)).drew := by
  obtain ⟨b0, b1, b2, h⟩ := len3 _ (bytesAt_length s a.toNat 3 (by omega))
  rw [h]
  exact get3 s a b0 b1 b2 w h0 h1 hm ((extract_bytesAt s a.toNat 3).trans h)
theorem getv3 (s : ByteArray) (a : Int) (w : World) (h0 : 0 ≤ a) (h1 : a + 3 ≤ s.size) (hm : s.size ≤ 9223372036854775807) :
    Calls Tryd.prog 52 #[.string s, .int .i64 a, .int .i64 3] w fun e w' => e = .returned (.tuple #[.int .i64 (num (bytesAt s a.toNat 3)), .int .i64 0]) ∧ Below w.heap.size w w' :=
  (getx3 s a w h0 h1 hm).mono fun _ _ ⟨he, _, hw⟩ => ⟨he, by rw [hw]; exact ((Below.refl _ _).alloc (Nat.le_refl _) _).drew⟩
theorem len4 (l : List UInt8) (h : l.length = 4) : ∃ b0 b1 b2 b3, l = [b0, b1, b2, b3] := by
  match l, h with
  | [b0, b1, b2, b3], _ => exact ⟨b0, b1, b2, b3, rfl⟩
theorem getx4 (s : ByteArray) (a : Int) (w : World) (h0 : 0 ≤ a) (h1 : a + 4 ≤ s.size) (hm : s.size ≤ 9223372036854775807) :
    Calls Tryd.prog 52 #[.string s, .int .i64 a, .int .i64 4] w fun e w' => e = .returned (.tuple #[.int .i64 (num (bytesAt s a.toNat 4)), .int .i64 0]) ∧ ∃ cs, w' = (w.alloc (.cells cs 186)).drew := by
  obtain ⟨b0, b1, b2, b3, h⟩ := len4 _ (bytesAt_length s a.toNat 4 (by omega))
  rw [h]
  exact get4 s a b0 b1 b2 b3 w h0 h1 hm ((extract_bytesAt s a.toNat 4).trans h)
theorem getv4 (s : ByteArray) (a : Int) (w : World) (h0 : 0 ≤ a) (h1 : a + 4 ≤ s.size) (hm : s.size ≤ 9223372036854775807) :
    Calls Tryd.prog 52 #[.string s, .int .i64 a, .int .i64 4] w fun e w' => e = .returned (.tuple #[.int .i64 (num (bytesAt s a.toNat 4)), .int .i64 0]) ∧ Below w.heap.size w w' :=
  (getx4 s a w h0 h1 hm).mono fun _ _ ⟨he, _, hw⟩ => ⟨he, by rw [hw]; exact ((Below.refl _ _).alloc (Nat.le_refl _) _).drew⟩

def putOk (n b : Int) : Prop := 1 ≤ b ∧ b ≤ 4 ∧ 0 ≤ n ∧ n < 256 ^ b.toNat
set_option maxHeartbeats 400000 in
theorem put_no (n b : Int) (w : World) (h : ¬ putOk n b) :
    Calls Tryd.prog 70 #[.int .i64 n, .int .i64 b] w fun e w' => e = .returned (.tuple #[.string ⟨#[]⟩, .int .i64 10]) ∧ w = w' := by
  by_cases c1 : b < 1
  · clear h
    go_enter Tryd.func70, Tryd.ntmps70
    go_wp2
    go_ret2
    exact ⟨rfl, rfl⟩
  by_cases c2 : 4 < b
  · clear h
    go_enter Tryd.func70, Tryd.ntmps70
    go_wp2
    go_ret2
    exact ⟨rfl, rfl⟩
  by_cases c3 : n < 0
  · clear h
    have hb : b = 1 ∨ b = 2 ∨ b = 3 ∨ b = 4 := by omega
    rcases hb with rfl | rfl | rfl | rfl
    all_goals
      clear c1 c2
      go_enter Tryd.func70, Tryd.ntmps70
      go_wp2
      go_ret2
      exact ⟨rfl, rfl⟩
  have hb : b = 1 ∨ b = 2 ∨ b = 3 ∨ b = 4 := by omega
  rcases hb with rfl | rfl | rfl | rfl
  all_goals
    clear c1 c2
    have h2 : ¬ n < 256 ^ (Int.toNat _) := fun q => h ⟨by omega, by omega, by omega, q⟩
    simp at h2
    clear h
    first
      | (have hsh : (n / 256 != 0) = true := (by simp; omega))
      | (have hsh : (n / 65536 != 0) = true := (by simp; omega))
      | (have hsh : (n / 16777216 != 0) = true := (by simp; omega))
      | (have hsh : (n / 4294967296 != 0) = true := (by simp; omega))
    go_enter Tryd.func70, Tryd.ntmps70
    go_wp2
    go_ret2
    exact ⟨rfl, rfl⟩

set_option maxHeartbeats 400000 in
theorem get_no (s : ByteArray) (a b : Int) (w : World) (hm : s.size ≤ 9223372036854775807) (h : ¬ (1 ≤ b ∧ b ≤ 4 ∧ 0 ≤ a ∧ a + b ≤ s.size)) :
    Calls Tryd.prog 52 #[.string s, .int .i64 a, .int .i64 b] w fun e w' => e = .returned (.tuple #[.int .i64 0, .int .i64 10]) ∧ w = w' := by
  by_cases c1 : b < 1
  · clear h
    go_enter Tryd.func52, Tryd.ntmps52
    go_wp2
    go_ret2
    exact ⟨rfl, rfl⟩
  by_cases c2 : 4 < b
  · clear h
    go_enter Tryd.func52, Tryd.ntmps52
    go_wp2
    go_ret2
    exact ⟨rfl, rfl⟩
  by_cases c3 : a < 0
  · clear h
    go_enter Tryd.func52, Tryd.ntmps52
    go_wp2
    go_ret2
    exact ⟨rfl, rfl⟩
  have c4 : (s.size : Int) - b < a := by omega
  clear h
  go_enter Tryd.func52, Tryd.ntmps52
  go_wp2
  go_ret2
  exact ⟨rfl, rfl⟩
end Go.Proofs.YtmgjcjacoegocaaDoor.Wire
