/-
  Contracts of the kit's shelf at this program, in plain words: written by the kit's lay-plain.mjs.
-/
import Derived.Shelf.SlicesG.Clone
import Derived.Ground.SlgnProg
import Derived.Shelf.SlSortCmp.NoneTotal
import Derived.Ground.SlsfProg
import Derived.Shelf.SlicesG.Cmp
import Derived.Ground.SlgcProg
import Derived.Test.YtnffigeofdagfaaDoorProg
namespace Go.Proofs.YtnffigeofdagfaaDoor.M
open Go.Shelf Go.RowKit
def cloneL_ren : Go.Shelf.Ren := ⟨fun | 41 => 70 | n => n, fun | 22 => 22 | 23 => 3 | 4 => 4 | n => n, fun | n => n⟩
theorem cloneL : Go.Proofs.SlLaysN.n41 Tryd.prog cloneL_ren := {
 mixed := by kernel_rfl
 f41 := ⟨Tryd.f70.name, by decide, Tryd.func70.trans (congrArg some (by kernel_rfl))⟩
 t4 := Tryd.underlying4
 a4 := Tryd.isAgg4
 z4 := Tryd.sizeOf4
 v4 := Tryd.zeroValue4
 t22 := Tryd.underlying22
 a22 := Tryd.isAgg22
 z22 := Tryd.sizeOf22
 v22 := Tryd.zeroValue22
 t23 := Tryd.underlying3
 a23 := Tryd.isAgg3
 z23 := Tryd.sizeOf3
 v23 := Tryd.zeroValue3
 i23 := by kernel_rfl }
def sortL_ren : Go.Shelf.Ren := ⟨fun | 6 => 94 | 15 => 109 | 14 => 108 | 28 => 127 | 29 => 128 | 20 => 119 | 21 => 120 | 22 => 121 | 23 => 122 | 24 => 123 | 25 => 124 | 26 => 125 | 27 => 126 | 46 => 135 | 47 => 136 | 48 => 137 | 49 => 138 | 50 => 139 | 57 => 140 | n => n, fun | 22 => 121 | 24 => 143 | 25 => 148 | 3 => 3 | 39 => 78 | 0 => 0 | 53 => 184 | 55 => 73 | 4 => 4 | 46 => 178 | 45 => 177 | 50 => 112 | 5 => 5 | 9 => 9 | 66 => 190 | 70 => 194 | 76 => 196 | 77 => 197 | n => n, fun | n => n⟩
theorem sortL : Go.Proofs.SlLaysF0.n6 Tryd.prog sortL_ren := {
 mixed := by kernel_rfl
 f6 := ⟨Tryd.f94.name, by decide, Tryd.func94.trans (congrArg some (by kernel_rfl))⟩
 f14 := ⟨Tryd.f108.name, by decide, Tryd.func108.trans (congrArg some (by kernel_rfl))⟩
 f15 := Tryd.func109.trans (congrArg some (by kernel_rfl))
 f20 := ⟨Tryd.f119.name, by decide, Tryd.func119.trans (congrArg some (by kernel_rfl))⟩
 f21 := ⟨Tryd.f120.name, by decide, Tryd.func120.trans (congrArg some (by kernel_rfl))⟩
 f22 := ⟨Tryd.f121.name, by decide, Tryd.func121.trans (congrArg some (by kernel_rfl))⟩
 f23 := ⟨Tryd.f122.name, by decide, Tryd.func122.trans (congrArg some (by kernel_rfl))⟩
 f24 := ⟨Tryd.f123.name, by decide, Tryd.func123.trans (congrArg some (by kernel_rfl))⟩
 f25 := ⟨Tryd.f124.name, by decide, Tryd.func124.trans (congrArg some (by kernel_rfl))⟩
 f26 := ⟨Tryd.f125.name, by decide, Tryd.func125.trans (congrArg some (by kernel_rfl))⟩
 f27 := ⟨Tryd.f126.name, by decide, Tryd.func126.trans (congrArg some (by kernel_rfl))⟩
 f28 := Tryd.func127.trans (congrArg some (by kernel_rfl))
 f29 := Tryd.func128.trans (congrArg some (by kernel_rfl))
 f46 := ⟨Tryd.f135.name, by decide, Tryd.func135.trans (congrArg some (by kernel_rfl))⟩
 f47 := Tryd.func136.trans (congrArg some (by kernel_rfl))
 f48 := Tryd.func137.trans (congrArg some (by kernel_rfl))
 f49 := ⟨Tryd.f138.name, by decide, Tryd.func138.trans (congrArg some (by kernel_rfl))⟩
 f50 := ⟨Tryd.f139.name, by decide, Tryd.func139.trans (congrArg some (by kernel_rfl))⟩
 f57 := ⟨Tryd.f140.name, by decide, Tryd.func140.trans (congrArg some (by kernel_rfl))⟩
 t0 := Tryd.underlying0
 a0 := Tryd.isAgg0
 z0 := Tryd.sizeOf0
 v0 := Tryd.zeroValue0
 t3 := Tryd.underlying3
 a3 := Tryd.isAgg3
 z3 := Tryd.sizeOf3
 v3 := Tryd.zeroValue3
 t4 := Tryd.underlying4
 a4 := Tryd.isAgg4
 z4 := Tryd.sizeOf4
 v4 := Tryd.zeroValue4
 t5 := Tryd.underlying5
 a5 := Tryd.isAgg5
 z5 := Tryd.sizeOf5
 v5 := Tryd.zeroValue5
 t9 := Tryd.underlying9
 a9 := Tryd.isAgg9
 z9 := Tryd.sizeOf9
 v9 := Tryd.zeroValue9
 t22 := Tryd.underlying121
 a22 := Tryd.isAgg121
 z22 := Tryd.sizeOf121
 v22 := Tryd.zeroValue121
 t25 := Tryd.underlying148
 a25 := Tryd.isAgg148
 z25 := Tryd.sizeOf148
 v25 := Tryd.zeroValue148
 t39 := Tryd.underlying78
 a39 := Tryd.isAgg78
 z39 := Tryd.sizeOf78
 v39 := Tryd.zeroValue78
 t45 := Tryd.underlying177
 a45 := Tryd.isAgg177
 z45 := Tryd.sizeOf177
 v45 := Tryd.zeroValue177
 t46 := Tryd.underlying178
 a46 := Tryd.isAgg178
 z46 := Tryd.sizeOf178
 v46 := Tryd.zeroValue178
 t50 := Tryd.underlying112
 a50 := Tryd.isAgg112
 z50 := Tryd.sizeOf112
 v50 := Tryd.zeroValue112
 t53 := Tryd.underlying184
 a53 := Tryd.isAgg184
 z53 := Tryd.sizeOf184
 v53 := Tryd.zeroValue184
 t55 := Tryd.underlying73
 a55 := Tryd.isAgg73
 z55 := Tryd.sizeOf73
 v55 := Tryd.zeroValue73
 t66 := Tryd.underlying190
 a66 := Tryd.isAgg190
 z66 := Tryd.sizeOf190
 v66 := Tryd.zeroValue190
 t70 := Tryd.underlying194
 a70 := Tryd.isAgg194
 z70 := Tryd.sizeOf194
 v70 := Tryd.zeroValue194
 t76 := Tryd.underlying196
 a76 := Tryd.isAgg196
 z76 := Tryd.sizeOf196
 v76 := Tryd.zeroValue196
 t77 := Tryd.underlying197
 a77 := Tryd.isAgg197
 z77 := Tryd.sizeOf197
 v77 := Tryd.zeroValue197 }
def cmpL_ren : Go.Shelf.Ren := ⟨fun | 5 => 111 | 7 => 129 | n => n, fun | 22 => 3 | 3 => 3 | 4 => 4 | n => n, fun | n => n⟩
theorem cmpL : Go.Proofs.SlLaysC2.n5 Tryd.prog cmpL_ren := {
 mixed := by kernel_rfl
 f5 := ⟨Tryd.f111.name, by decide, Tryd.func111.trans (congrArg some (by kernel_rfl))⟩
 f7 := ⟨Tryd.f129.name, by decide, Tryd.func129.trans (congrArg some (by kernel_rfl))⟩
 t3 := Tryd.underlying3
 a3 := Tryd.isAgg3
 z3 := Tryd.sizeOf3
 v3 := Tryd.zeroValue3
 t4 := Tryd.underlying4
 a4 := Tryd.isAgg4
 z4 := Tryd.sizeOf4
 v4 := Tryd.zeroValue4
 t22 := Tryd.underlying3
 a22 := Tryd.isAgg3
 z22 := Tryd.sizeOf3
 v22 := Tryd.zeroValue3 }
end Go.Proofs.YtnffigeofdagfaaDoor.M
