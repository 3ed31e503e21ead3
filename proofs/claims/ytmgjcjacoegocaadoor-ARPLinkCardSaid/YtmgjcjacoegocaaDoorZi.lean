/-
  Contracts of slices.Sorted, slices.Sort and maps.Keys at this translation, laid by a tool of the kit.
-/
import Derived.Shelf.SlGeneric
import Derived.Shelf.SlIterI.Nil
import Derived.Shelf.SortM.Plain
import Derived.Shelf.SortM.SortNone
import Derived.Ground.GgzProg
import Derived.Ground.SlgmProg
import Derived.Test.YtmgjcjacoegocaaDoorProg
namespace Go.Proofs
open Go.Shelf
def Tryd.keys0_ren : Go.Shelf.Ren := ⟨fun | 7 => 90 | 10 => 104 | n => n, fun | 23 => 100 | 26 => 3 | 3 => 124 | 28 => 148 | 0 => 0 | 27 => 147 | 33 => 39 | 4 => 4 | n => n, fun | n => n⟩
theorem Tryd.keys0 : Go.Proofs.SlLaysZI.n7 Tryd.prog Tryd.keys0_ren := {
  mixed := by kernel_rfl
  f7 := ⟨Tryd.f90.name, by decide, Tryd.func90.trans (congrArg some (by kernel_rfl))⟩
  f10 := ⟨Tryd.f104.name, by decide, Tryd.func104.trans (congrArg some (by kernel_rfl))⟩
  t0 := Tryd.underlying0
  a0 := Tryd.isAgg0
  z0 := Tryd.sizeOf0
  v0 := Tryd.zeroValue0
  t4 := Tryd.underlying4
  a4 := Tryd.isAgg4
  z4 := Tryd.sizeOf4
  v4 := Tryd.zeroValue4
  t23 := Tryd.underlying100
  a23 := Tryd.isAgg100
  z23 := Tryd.sizeOf100
  v23 := Tryd.zeroValue100
  t26 := Tryd.underlying3
  a26 := Tryd.isAgg3
  z26 := Tryd.sizeOf3
  v26 := Tryd.zeroValue3
  t27 := Tryd.underlying147
  a27 := Tryd.isAgg147
  z27 := Tryd.sizeOf147
  v27 := Tryd.zeroValue147
  t28 := Tryd.underlying148
  a28 := Tryd.isAgg148
  z28 := Tryd.sizeOf148
  v28 := Tryd.zeroValue148
  t33 := Tryd.underlying39
  a33 := Tryd.isAgg39
  z33 := Tryd.sizeOf39
  v33 := Tryd.zeroValue39 }
def Tryd.sortedI_ren : Go.Shelf.Ren := ⟨fun | 6 => 89 | 8 => 102 | 9 => 103 | 11 => 110 | 13 => 112 | 12 => 111 | 23 => 122 | 24 => 123 | 14 => 113 | 15 => 114 | 16 => 115 | 17 => 116 | 18 => 117 | 19 => 118 | 20 => 119 | 21 => 120 | 22 => 121 | 25 => 124 | 26 => 125 | 27 => 126 | 28 => 127 | 29 => 128 | 30 => 129 | 31 => 130 | n => n, fun | 26 => 3 | 28 => 148 | 24 => 150 | 0 => 0 | 3 => 3 | 37 => 184 | 48 => 183 | 50 => 136 | 4 => 4 | 40 => 224 | 39 => 223 | 45 => 95 | 5 => 5 | 9 => 9 | 51 => 232 | 55 => 236 | 57 => 238 | 58 => 69 | 33 => 39 | n => n, fun | n => n⟩
theorem Tryd.sortedI : Go.Proofs.SlLaysZI.n6 Tryd.prog Tryd.sortedI_ren := {
  mixed := by kernel_rfl
  f6 := ⟨Tryd.f89.name, by decide, Tryd.func89.trans (congrArg some (by kernel_rfl))⟩
  f8 := ⟨Tryd.f102.name, by decide, Tryd.func102.trans (congrArg some (by kernel_rfl))⟩
  f11 := ⟨Tryd.f110.name, by decide, Tryd.func110.trans (congrArg some (by kernel_rfl))⟩
  t0 := Tryd.underlying0
  a0 := Tryd.isAgg0
  z0 := Tryd.sizeOf0
  v0 := Tryd.zeroValue0
  t24 := Tryd.underlying150
  a24 := Tryd.isAgg150
  z24 := Tryd.sizeOf150
  v24 := Tryd.zeroValue150
  t26 := Tryd.underlying3
  a26 := Tryd.isAgg3
  z26 := Tryd.sizeOf3
  v26 := Tryd.zeroValue3
  t28 := Tryd.underlying148
  a28 := Tryd.isAgg148
  z28 := Tryd.sizeOf148
  v28 := Tryd.zeroValue148
  i26 := by kernel_rfl }
def Tryd.sortI_ren : Go.Shelf.Ren := ⟨fun | 5 => 103 | 8 => 112 | 7 => 111 | 19 => 122 | 20 => 123 | 10 => 113 | 11 => 114 | 12 => 115 | 13 => 116 | 14 => 117 | 15 => 118 | 16 => 119 | 17 => 120 | 18 => 121 | 30 => 124 | 31 => 125 | 32 => 126 | 33 => 127 | 34 => 128 | 35 => 129 | 40 => 130 | n => n, fun | 23 => 150 | 25 => 3 | 3 => 3 | 32 => 184 | 22 => 150 | 0 => 0 | 44 => 183 | 46 => 136 | 4 => 4 | 36 => 224 | 35 => 223 | 41 => 95 | 5 => 5 | 9 => 9 | 53 => 232 | 57 => 236 | 63 => 238 | 64 => 69 | n => n, fun | n => n⟩
theorem Tryd.sortI : Go.Proofs.SlLaysM.n5 Tryd.prog Tryd.sortI_ren := {
  mixed := by kernel_rfl
  f5 := ⟨Tryd.f103.name, by decide, Tryd.func103.trans (congrArg some (by kernel_rfl))⟩
  f7 := ⟨Tryd.f111.name, by decide, Tryd.func111.trans (congrArg some (by kernel_rfl))⟩
  f8 := Tryd.func112.trans (congrArg some (by kernel_rfl))
  f10 := ⟨Tryd.f113.name, by decide, Tryd.func113.trans (congrArg some (by kernel_rfl))⟩
  f11 := ⟨Tryd.f114.name, by decide, Tryd.func114.trans (congrArg some (by kernel_rfl))⟩
  f12 := ⟨Tryd.f115.name, by decide, Tryd.func115.trans (congrArg some (by kernel_rfl))⟩
  f13 := ⟨Tryd.f116.name, by decide, Tryd.func116.trans (congrArg some (by kernel_rfl))⟩
  f14 := ⟨Tryd.f117.name, by decide, Tryd.func117.trans (congrArg some (by kernel_rfl))⟩
  f15 := ⟨Tryd.f118.name, by decide, Tryd.func118.trans (congrArg some (by kernel_rfl))⟩
  f16 := ⟨Tryd.f119.name, by decide, Tryd.func119.trans (congrArg some (by kernel_rfl))⟩
  f17 := ⟨Tryd.f120.name, by decide, Tryd.func120.trans (congrArg some (by kernel_rfl))⟩
  f18 := ⟨Tryd.f121.name, by decide, Tryd.func121.trans (congrArg some (by kernel_rfl))⟩
  f19 := Tryd.func122.trans (congrArg some (by kernel_rfl))
  f20 := Tryd.func123.trans (congrArg some (by kernel_rfl))
  f30 := ⟨Tryd.f124.name, by decide, Tryd.func124.trans (congrArg some (by kernel_rfl))⟩
  f31 := Tryd.func125.trans (congrArg some (by kernel_rfl))
  f32 := Tryd.func126.trans (congrArg some (by kernel_rfl))
  f33 := ⟨Tryd.f127.name, by decide, Tryd.func127.trans (congrArg some (by kernel_rfl))⟩
  f34 := ⟨Tryd.f128.name, by decide, Tryd.func128.trans (congrArg some (by kernel_rfl))⟩
  f35 := ⟨Tryd.f129.name, by decide, Tryd.func129.trans (congrArg some (by kernel_rfl))⟩
  f40 := ⟨Tryd.f130.name, by decide, Tryd.func130.trans (congrArg some (by kernel_rfl))⟩
  t0 := Tryd.underlying0
  a0 := Tryd.isAgg0
  z0 := Tryd.sizeOf0
  v0 := Tryd.zeroValue0
  t3 := Tryd.underlying3
  a3 := Tryd.isAgg3
  z3 := Tryd.sizeOf3
  v3 := Tryd.zeroValue3
  t4 := Tryd.underlying4
  a4 := Tryd.isAgg4
  z4 := Tryd.sizeOf4
  v4 := Tryd.zeroValue4
  t5 := Tryd.underlying5
  a5 := Tryd.isAgg5
  z5 := Tryd.sizeOf5
  v5 := Tryd.zeroValue5
  t9 := Tryd.underlying9
  a9 := Tryd.isAgg9
  z9 := Tryd.sizeOf9
  v9 := Tryd.zeroValue9
  t22 := Tryd.underlying150
  a22 := Tryd.isAgg150
  z22 := Tryd.sizeOf150
  v22 := Tryd.zeroValue150
  t23 := Tryd.underlying150
  a23 := Tryd.isAgg150
  z23 := Tryd.sizeOf150
  v23 := Tryd.zeroValue150
  t25 := Tryd.underlying3
  a25 := Tryd.isAgg3
  z25 := Tryd.sizeOf3
  v25 := Tryd.zeroValue3
  t32 := Tryd.underlying184
  a32 := Tryd.isAgg184
  z32 := Tryd.sizeOf184
  v32 := Tryd.zeroValue184
  t35 := Tryd.underlying223
  a35 := Tryd.isAgg223
  z35 := Tryd.sizeOf223
  v35 := Tryd.zeroValue223
  t36 := Tryd.underlying224
  a36 := Tryd.isAgg224
  z36 := Tryd.sizeOf224
  v36 := Tryd.zeroValue224
  t41 := Tryd.underlying95
  a41 := Tryd.isAgg95
  z41 := Tryd.sizeOf95
  v41 := Tryd.zeroValue95
  t44 := Tryd.underlying183
  a44 := Tryd.isAgg183
  z44 := Tryd.sizeOf183
  v44 := Tryd.zeroValue183
  t46 := Tryd.underlying136
  a46 := Tryd.isAgg136
  z46 := Tryd.sizeOf136
  v46 := Tryd.zeroValue136
  t53 := Tryd.underlying232
  a53 := Tryd.isAgg232
  z53 := Tryd.sizeOf232
  v53 := Tryd.zeroValue232
  t57 := Tryd.underlying236
  a57 := Tryd.isAgg236
  z57 := Tryd.sizeOf236
  v57 := Tryd.zeroValue236
  t63 := Tryd.underlying238
  a63 := Tryd.isAgg238
  z63 := Tryd.sizeOf238
  v63 := Tryd.zeroValue238
  t64 := Tryd.underlying69
  a64 := Tryd.isAgg69
  z64 := Tryd.sizeOf69
  v64 := Tryd.zeroValue69 }
end Go.Proofs
