/-
  The layout of the types of this seat's program, written by a program of mine.
-/
import Derived.Test.YtghnmmfkckneaaaGreatZsaf
import Derived.Test.YtghnmmfkckneaaaGreatProg
namespace Go.Proofs.YtghnmmfkckneaaaGreat.M
open Go.RowKit

@[simp] theorem aggB_3 : aggB Tryz.prog 3 = some false := by kernel_rfl
@[simp] theorem szOf_3 : szOf Tryz.prog 3 = some 1 := by kernel_rfl
@[simp] theorem byOf_3 : byOf Tryz.prog 3 = some 8 := by kernel_rfl
@[simp] theorem zeroOf_3 : zeroOf Tryz.prog 3 = some [.int .i64 0] := by kernel_rfl
@[simp] theorem zero1_3 : zero1 Tryz.prog 3 = some (.int .i64 0) := by kernel_rfl
@[simp] theorem strB_3 : strB Tryz.prog 3 = false := by kernel_rfl
@[simp] theorem intB_3 : intB Tryz.prog 3 = some .i64 := by kernel_rfl
@[simp] theorem aggB_4 : aggB Tryz.prog 4 = some false := by kernel_rfl
@[simp] theorem szOf_4 : szOf Tryz.prog 4 = some 1 := by kernel_rfl
@[simp] theorem byOf_4 : byOf Tryz.prog 4 = some 1 := by kernel_rfl
@[simp] theorem zeroOf_4 : zeroOf Tryz.prog 4 = some [.bool false] := by kernel_rfl
@[simp] theorem zero1_4 : zero1 Tryz.prog 4 = some (.bool false) := by kernel_rfl
@[simp] theorem boolB_4 : boolB Tryz.prog 4 = true := by kernel_rfl
@[simp] theorem szOf_5 : szOf Tryz.prog 5 = some 1 := by kernel_rfl
@[simp] theorem byOf_5 : byOf Tryz.prog 5 = some 1 := by kernel_rfl
@[simp] theorem zeroOf_5 : zeroOf Tryz.prog 5 = some [.int .u8 0] := by kernel_rfl
@[simp] theorem intB_5 : intB Tryz.prog 5 = some .u8 := by kernel_rfl
@[simp] theorem fldOf_7_0 : fldOf Tryz.prog 7 0 = some (0, 1, false) := by kernel_rfl
@[simp] theorem fldOf_7_1 : fldOf Tryz.prog 7 1 = some (1, 1, false) := by kernel_rfl
@[simp] theorem fldOf_7_2 : fldOf Tryz.prog 7 2 = some (2, 1, false) := by kernel_rfl
@[simp] theorem fldOf_7_3 : fldOf Tryz.prog 7 3 = some (3, 1, false) := by kernel_rfl
@[simp] theorem plOf_7 : plOf Tryz.prog 7 = some (fun i => [(0, 1), (1, 1), (2, 1), (3, 1)][i]?) := by kernel_rfl
@[simp] theorem aggB_9 : aggB Tryz.prog 9 = some false := by kernel_rfl
@[simp] theorem szOf_9 : szOf Tryz.prog 9 = some 1 := by kernel_rfl
@[simp] theorem byOf_9 : byOf Tryz.prog 9 = some 16 := by kernel_rfl
@[simp] theorem zeroOf_9 : zeroOf Tryz.prog 9 = some [.str ⟨#[]⟩] := by kernel_rfl
@[simp] theorem strB_9 : strB Tryz.prog 9 = true := by kernel_rfl
@[simp] theorem fldOf_13_0 : fldOf Tryz.prog 13 0 = some (0, 1, false) := by kernel_rfl
@[simp] theorem fldOf_13_1 : fldOf Tryz.prog 13 1 = some (1, 1, false) := by kernel_rfl
@[simp] theorem plOf_13 : plOf Tryz.prog 13 = some (fun i => [(0, 1), (1, 1)][i]?) := by kernel_rfl
@[simp] theorem fldOf_18_0 : fldOf Tryz.prog 18 0 = some (0, 1, false) := by kernel_rfl
@[simp] theorem plOf_18 : plOf Tryz.prog 18 = some (fun i => [(0, 1)][i]?) := by kernel_rfl
@[simp] theorem aggB_22 : aggB Tryz.prog 22 = some false := by kernel_rfl
@[simp] theorem szOf_22 : szOf Tryz.prog 22 = some 1 := by kernel_rfl
@[simp] theorem byOf_22 : byOf Tryz.prog 22 = some 24 := by kernel_rfl
@[simp] theorem zeroOf_22 : zeroOf Tryz.prog 22 = some [.sl 0 []] := by kernel_rfl
@[simp] theorem elOf_22 : elOf Tryz.prog 22 = some 3 := by kernel_rfl
@[simp] theorem strB_22 : strB Tryz.prog 22 = false := by kernel_rfl
@[simp] theorem aggB_25 : aggB Tryz.prog 25 = some false := by kernel_rfl
@[simp] theorem szOf_25 : szOf Tryz.prog 25 = some 1 := by kernel_rfl
@[simp] theorem elOf_25 : elOf Tryz.prog 25 = some 22 := by kernel_rfl
@[simp] theorem aggB_27 : aggB Tryz.prog 27 = some false := by kernel_rfl
@[simp] theorem szOf_27 : szOf Tryz.prog 27 = some 1 := by kernel_rfl
@[simp] theorem elOf_27 : elOf Tryz.prog 27 = some 29 := by kernel_rfl
@[simp] theorem strB_27 : strB Tryz.prog 27 = false := by kernel_rfl
@[simp] theorem fldOf_28_0 : fldOf Tryz.prog 28 0 = some (0, 1, false) := by kernel_rfl
@[simp] theorem fldOf_28_1 : fldOf Tryz.prog 28 1 = some (1, 1, false) := by kernel_rfl
@[simp] theorem fldOf_28_2 : fldOf Tryz.prog 28 2 = some (2, 1, false) := by kernel_rfl
@[simp] theorem plOf_28 : plOf Tryz.prog 28 = some (fun i => [(0, 1), (1, 1), (2, 1)][i]?) := by kernel_rfl
@[simp] theorem aggB_29 : aggB Tryz.prog 29 = some true := by kernel_rfl
@[simp] theorem szOf_29 : szOf Tryz.prog 29 = some 3 := by kernel_rfl
@[simp] theorem byOf_29 : byOf Tryz.prog 29 = some 40 := by kernel_rfl
@[simp] theorem zeroOf_29 : zeroOf Tryz.prog 29 = some [.int .i64 0, .int .i64 0, .sl 0 []] := by kernel_rfl
@[simp] theorem fldOf_29_0 : fldOf Tryz.prog 29 0 = some (0, 1, false) := by kernel_rfl
@[simp] theorem fldOf_29_1 : fldOf Tryz.prog 29 1 = some (1, 1, false) := by kernel_rfl
@[simp] theorem fldOf_29_2 : fldOf Tryz.prog 29 2 = some (2, 1, false) := by kernel_rfl
@[simp] theorem plOf_29 : plOf Tryz.prog 29 = some (fun i => [(0, 1), (1, 1), (2, 1)][i]?) := by kernel_rfl
@[simp] theorem fldOf_30_0 : fldOf Tryz.prog 30 0 = some (0, 3, true) := by kernel_rfl
@[simp] theorem fldOf_30_1 : fldOf Tryz.prog 30 1 = some (3, 3, true) := by kernel_rfl
@[simp] theorem plOf_30 : plOf Tryz.prog 30 = some (fun i => [(0, 3), (3, 3)][i]?) := by kernel_rfl
@[simp] theorem aggB_31 : aggB Tryz.prog 31 = some true := by kernel_rfl
@[simp] theorem szOf_31 : szOf Tryz.prog 31 = some 6 := by kernel_rfl
@[simp] theorem zeroOf_31 : zeroOf Tryz.prog 31 = some [.int .i64 0, .int .i64 0, .sl 0 [], .int .i64 0, .int .i64 0, .sl 0 []] := by kernel_rfl
@[simp] theorem fldOf_31_0 : fldOf Tryz.prog 31 0 = some (0, 3, true) := by kernel_rfl
@[simp] theorem fldOf_31_1 : fldOf Tryz.prog 31 1 = some (3, 3, true) := by kernel_rfl
@[simp] theorem plOf_31 : plOf Tryz.prog 31 = some (fun i => [(0, 3), (3, 3)][i]?) := by kernel_rfl
@[simp] theorem fldOf_50_0 : fldOf Tryz.prog 50 0 = some (0, 1, false) := by kernel_rfl
@[simp] theorem fldOf_50_1 : fldOf Tryz.prog 50 1 = some (1, 1, false) := by kernel_rfl
@[simp] theorem fldOf_50_2 : fldOf Tryz.prog 50 2 = some (2, 1, false) := by kernel_rfl
@[simp] theorem fldOf_50_3 : fldOf Tryz.prog 50 3 = some (3, 1, false) := by kernel_rfl
@[simp] theorem plOf_50 : plOf Tryz.prog 50 = some (fun i => [(0, 1), (1, 1), (2, 1), (3, 1)][i]?) := by kernel_rfl
@[simp] theorem aggB_51 : aggB Tryz.prog 51 = some true := by kernel_rfl
@[simp] theorem szOf_51 : szOf Tryz.prog 51 = some 4 := by kernel_rfl
@[simp] theorem zeroOf_51 : zeroOf Tryz.prog 51 = some [.sl 0 [], .int .i64 0, .bool false, .bool false] := by kernel_rfl
@[simp] theorem fldOf_51_0 : fldOf Tryz.prog 51 0 = some (0, 1, false) := by kernel_rfl
@[simp] theorem fldOf_51_1 : fldOf Tryz.prog 51 1 = some (1, 1, false) := by kernel_rfl
@[simp] theorem fldOf_51_2 : fldOf Tryz.prog 51 2 = some (2, 1, false) := by kernel_rfl
@[simp] theorem fldOf_51_3 : fldOf Tryz.prog 51 3 = some (3, 1, false) := by kernel_rfl
@[simp] theorem plOf_51 : plOf Tryz.prog 51 = some (fun i => [(0, 1), (1, 1), (2, 1), (3, 1)][i]?) := by kernel_rfl
@[simp] theorem fldOf_58_0 : fldOf Tryz.prog 58 0 = some (0, 1, false) := by kernel_rfl
@[simp] theorem fldOf_58_1 : fldOf Tryz.prog 58 1 = some (1, 1, false) := by kernel_rfl
@[simp] theorem plOf_58 : plOf Tryz.prog 58 = some (fun i => [(0, 1), (1, 1)][i]?) := by kernel_rfl
@[simp] theorem zeroOf_59 : zeroOf Tryz.prog 59 = some [.sl 0 [], .int .i64 0] := by kernel_rfl
@[simp] theorem fldOf_59_0 : fldOf Tryz.prog 59 0 = some (0, 1, false) := by kernel_rfl
@[simp] theorem fldOf_59_1 : fldOf Tryz.prog 59 1 = some (1, 1, false) := by kernel_rfl
@[simp] theorem plOf_59 : plOf Tryz.prog 59 = some (fun i => [(0, 1), (1, 1)][i]?) := by kernel_rfl
@[simp] theorem aggB_60 : aggB Tryz.prog 60 = some false := by kernel_rfl
@[simp] theorem szOf_60 : szOf Tryz.prog 60 = some 1 := by kernel_rfl
@[simp] theorem elOf_60 : elOf Tryz.prog 60 = some 9 := by kernel_rfl
@[simp] theorem aggB_61 : aggB Tryz.prog 61 = some false := by kernel_rfl
@[simp] theorem szOf_61 : szOf Tryz.prog 61 = some 1 := by kernel_rfl
@[simp] theorem elOf_61 : elOf Tryz.prog 61 = some 4 := by kernel_rfl
@[simp] theorem fldOf_62_0 : fldOf Tryz.prog 62 0 = some (0, 1, false) := by kernel_rfl
@[simp] theorem fldOf_62_1 : fldOf Tryz.prog 62 1 = some (1, 1, false) := by kernel_rfl
@[simp] theorem fldOf_62_2 : fldOf Tryz.prog 62 2 = some (2, 1, false) := by kernel_rfl
@[simp] theorem fldOf_62_3 : fldOf Tryz.prog 62 3 = some (3, 1, false) := by kernel_rfl
@[simp] theorem fldOf_62_4 : fldOf Tryz.prog 62 4 = some (4, 1, false) := by kernel_rfl
@[simp] theorem fldOf_62_5 : fldOf Tryz.prog 62 5 = some (5, 1, false) := by kernel_rfl
@[simp] theorem plOf_62 : plOf Tryz.prog 62 = some (fun i => [(0, 1), (1, 1), (2, 1), (3, 1), (4, 1), (5, 1)][i]?) := by kernel_rfl
@[simp] theorem aggB_63 : aggB Tryz.prog 63 = some true := by kernel_rfl
@[simp] theorem szOf_63 : szOf Tryz.prog 63 = some 6 := by kernel_rfl
@[simp] theorem zeroOf_63 : zeroOf Tryz.prog 63 = some [.int .i64 0, .sl 0 [], .sl 0 [], .sl 0 [], .sl 0 [], .sl 0 []] := by kernel_rfl
@[simp] theorem fldOf_63_0 : fldOf Tryz.prog 63 0 = some (0, 1, false) := by kernel_rfl
@[simp] theorem fldOf_63_1 : fldOf Tryz.prog 63 1 = some (1, 1, false) := by kernel_rfl
@[simp] theorem fldOf_63_2 : fldOf Tryz.prog 63 2 = some (2, 1, false) := by kernel_rfl
@[simp] theorem fldOf_63_3 : fldOf Tryz.prog 63 3 = some (3, 1, false) := by kernel_rfl
@[simp] theorem fldOf_63_4 : fldOf Tryz.prog 63 4 = some (4, 1, false) := by kernel_rfl
@[simp] theorem fldOf_63_5 : fldOf Tryz.prog 63 5 = some (5, 1, false) := by kernel_rfl
@[simp] theorem plOf_63 : plOf Tryz.prog 63 = some (fun i => [(0, 1), (1, 1), (2, 1), (3, 1), (4, 1), (5, 1)][i]?) := by kernel_rfl
@[simp] theorem fldOf_66_0 : fldOf Tryz.prog 66 0 = some (0, 1, false) := by kernel_rfl
@[simp] theorem fldOf_66_1 : fldOf Tryz.prog 66 1 = some (1, 1, false) := by kernel_rfl
@[simp] theorem fldOf_66_2 : fldOf Tryz.prog 66 2 = some (2, 1, false) := by kernel_rfl
@[simp] theorem fldOf_66_3 : fldOf Tryz.prog 66 3 = some (3, 1, false) := by kernel_rfl
@[simp] theorem plOf_66 : plOf Tryz.prog 66 = some (fun i => [(0, 1), (1, 1), (2, 1), (3, 1)][i]?) := by kernel_rfl
@[simp] theorem aggB_67 : aggB Tryz.prog 67 = some true := by kernel_rfl
@[simp] theorem szOf_67 : szOf Tryz.prog 67 = some 4 := by kernel_rfl
@[simp] theorem zeroOf_67 : zeroOf Tryz.prog 67 = some [.int .i64 0, .int .i64 0, .sl 0 [], .sl 0 []] := by kernel_rfl
@[simp] theorem fldOf_67_0 : fldOf Tryz.prog 67 0 = some (0, 1, false) := by kernel_rfl
@[simp] theorem fldOf_67_1 : fldOf Tryz.prog 67 1 = some (1, 1, false) := by kernel_rfl
@[simp] theorem fldOf_67_2 : fldOf Tryz.prog 67 2 = some (2, 1, false) := by kernel_rfl
@[simp] theorem fldOf_67_3 : fldOf Tryz.prog 67 3 = some (3, 1, false) := by kernel_rfl
@[simp] theorem plOf_67 : plOf Tryz.prog 67 = some (fun i => [(0, 1), (1, 1), (2, 1), (3, 1)][i]?) := by kernel_rfl
@[simp] theorem aggB_92 : aggB Tryz.prog 92 = some false := by kernel_rfl
@[simp] theorem szOf_92 : szOf Tryz.prog 92 = some 1 := by kernel_rfl
@[simp] theorem zeroOf_92 : zeroOf Tryz.prog 92 = some [.sl 0 []] := by kernel_rfl
@[simp] theorem elOf_92 : elOf Tryz.prog 92 = some 130 := by kernel_rfl
@[simp] theorem aggB_94 : aggB Tryz.prog 94 = some false := by kernel_rfl
@[simp] theorem szOf_94 : szOf Tryz.prog 94 = some 1 := by kernel_rfl
@[simp] theorem fldOf_99_0 : fldOf Tryz.prog 99 0 = some (0, 1, false) := by kernel_rfl
@[simp] theorem fldOf_99_1 : fldOf Tryz.prog 99 1 = some (1, 1, false) := by kernel_rfl
@[simp] theorem fldOf_99_2 : fldOf Tryz.prog 99 2 = some (2, 1, false) := by kernel_rfl
@[simp] theorem fldOf_99_3 : fldOf Tryz.prog 99 3 = some (3, 1, false) := by kernel_rfl
@[simp] theorem fldOf_99_4 : fldOf Tryz.prog 99 4 = some (4, 1, false) := by kernel_rfl
@[simp] theorem plOf_99 : plOf Tryz.prog 99 = some (fun i => [(0, 1), (1, 1), (2, 1), (3, 1), (4, 1)][i]?) := by kernel_rfl
@[simp] theorem zeroOf_100 : zeroOf Tryz.prog 100 = some [.nilp, .sl 0 [], .sl 0 [], .sl 0 [], .sl 0 []] := by kernel_rfl
@[simp] theorem fldOf_100_0 : fldOf Tryz.prog 100 0 = some (0, 1, false) := by kernel_rfl
@[simp] theorem fldOf_100_1 : fldOf Tryz.prog 100 1 = some (1, 1, false) := by kernel_rfl
@[simp] theorem fldOf_100_2 : fldOf Tryz.prog 100 2 = some (2, 1, false) := by kernel_rfl
@[simp] theorem fldOf_100_3 : fldOf Tryz.prog 100 3 = some (3, 1, false) := by kernel_rfl
@[simp] theorem fldOf_100_4 : fldOf Tryz.prog 100 4 = some (4, 1, false) := by kernel_rfl
@[simp] theorem plOf_100 : plOf Tryz.prog 100 = some (fun i => [(0, 1), (1, 1), (2, 1), (3, 1), (4, 1)][i]?) := by kernel_rfl
@[simp] theorem mpTy_112 : mpTy Tryz.prog 112 = some (3, 4) := by kernel_rfl
@[simp] theorem fldOf_114_0 : fldOf Tryz.prog 114 0 = some (0, 1, false) := by kernel_rfl
@[simp] theorem fldOf_114_1 : fldOf Tryz.prog 114 1 = some (1, 1, false) := by kernel_rfl
@[simp] theorem plOf_114 : plOf Tryz.prog 114 = some (fun i => [(0, 1), (1, 1)][i]?) := by kernel_rfl
@[simp] theorem szOf_115 : szOf Tryz.prog 115 = some 2 := by kernel_rfl
@[simp] theorem zeroOf_115 : zeroOf Tryz.prog 115 = some [.str ⟨#[]⟩, .int .i64 0] := by kernel_rfl
@[simp] theorem fldOf_115_0 : fldOf Tryz.prog 115 0 = some (0, 1, false) := by kernel_rfl
@[simp] theorem fldOf_115_1 : fldOf Tryz.prog 115 1 = some (1, 1, false) := by kernel_rfl
@[simp] theorem plOf_115 : plOf Tryz.prog 115 = some (fun i => [(0, 1), (1, 1)][i]?) := by kernel_rfl
@[simp] theorem elOf_119 : elOf Tryz.prog 119 = some 5 := by kernel_rfl
@[simp] theorem fldOf_129_0 : fldOf Tryz.prog 129 0 = some (0, 1, false) := by kernel_rfl
@[simp] theorem fldOf_129_1 : fldOf Tryz.prog 129 1 = some (1, 1, false) := by kernel_rfl
@[simp] theorem plOf_129 : plOf Tryz.prog 129 = some (fun i => [(0, 1), (1, 1)][i]?) := by kernel_rfl
@[simp] theorem aggB_130 : aggB Tryz.prog 130 = some true := by kernel_rfl
@[simp] theorem szOf_130 : szOf Tryz.prog 130 = some 2 := by kernel_rfl
@[simp] theorem byOf_130 : byOf Tryz.prog 130 = some 16 := by kernel_rfl
@[simp] theorem zeroOf_130 : zeroOf Tryz.prog 130 = some [.int .i64 0, .int .i64 0] := by kernel_rfl
@[simp] theorem fldOf_130_0 : fldOf Tryz.prog 130 0 = some (0, 1, false) := by kernel_rfl
@[simp] theorem fldOf_130_1 : fldOf Tryz.prog 130 1 = some (1, 1, false) := by kernel_rfl
@[simp] theorem plOf_130 : plOf Tryz.prog 130 = some (fun i => [(0, 1), (1, 1)][i]?) := by kernel_rfl
@[simp] theorem elOf_131 : elOf Tryz.prog 131 = some 92 := by kernel_rfl
@[simp] theorem elOf_132 : elOf Tryz.prog 132 = none := by kernel_rfl
@[simp] theorem arOf_132 : arOf Tryz.prog 132 = some (11, 22) := by kernel_rfl
@[simp] theorem plOf_132 : plOf Tryz.prog 132 = some (fun i => some (i * 1, 1)) := by kernel_rfl
@[simp] theorem fldOf_133_0 : fldOf Tryz.prog 133 0 = some (0, 1, false) := by kernel_rfl
@[simp] theorem fldOf_133_1 : fldOf Tryz.prog 133 1 = some (1, 1, false) := by kernel_rfl
@[simp] theorem fldOf_133_2 : fldOf Tryz.prog 133 2 = some (2, 11, true) := by kernel_rfl
@[simp] theorem plOf_133 : plOf Tryz.prog 133 = some (fun i => [(0, 1), (1, 1), (2, 11)][i]?) := by kernel_rfl
@[simp] theorem zeroOf_134 : zeroOf Tryz.prog 134 = some [.sl 0 [], .int .i64 0, .sl 0 [], .sl 0 [], .sl 0 [], .sl 0 [], .sl 0 [], .sl 0 [], .sl 0 [], .sl 0 [], .sl 0 [], .sl 0 [], .sl 0 []] := by kernel_rfl
@[simp] theorem fldOf_134_0 : fldOf Tryz.prog 134 0 = some (0, 1, false) := by kernel_rfl
@[simp] theorem fldOf_134_1 : fldOf Tryz.prog 134 1 = some (1, 1, false) := by kernel_rfl
@[simp] theorem fldOf_134_2 : fldOf Tryz.prog 134 2 = some (2, 11, true) := by kernel_rfl
@[simp] theorem plOf_134 : plOf Tryz.prog 134 = some (fun i => [(0, 1), (1, 1), (2, 11)][i]?) := by kernel_rfl
@[simp] theorem zeroOf_136 : zeroOf Tryz.prog 136 = some [.int .i64 0, .int .i64 0, .int .i64 0, .int .i64 0, .int .i64 0, .int .i64 0, .int .i64 0, .int .i64 0, .int .i64 0, .int .i64 0, .int .i64 0, .int .i64 0, .int .i64 0, .int .i64 0, .int .i64 0, .int .i64 0, .int .i64 0, .int .i64 0, .int .i64 0, .int .i64 0, .int .i64 0, .int .i64 0, .int .i64 0, .int .i64 0, .int .i64 0, .int .i64 0, .int .i64 0, .int .i64 0, .int .i64 0, .int .i64 0, .int .i64 0, .int .i64 0, .int .i64 0, .int .i64 0, .int .i64 0, .int .i64 0, .int .i64 0, .int .i64 0, .int .i64 0, .int .i64 0, .int .i64 0, .int .i64 0, .int .i64 0, .int .i64 0, .int .i64 0, .int .i64 0, .int .i64 0, .int .i64 0, .int .i64 0, .int .i64 0, .int .i64 0, .int .i64 0, .int .i64 0, .int .i64 0, .int .i64 0, .int .i64 0, .int .i64 0, .int .i64 0, .int .i64 0, .int .i64 0, .int .i64 0] := by kernel_rfl
@[simp] theorem elOf_136 : elOf Tryz.prog 136 = none := by kernel_rfl
@[simp] theorem arOf_136 : arOf Tryz.prog 136 = some (61, 3) := by kernel_rfl
@[simp] theorem plOf_136 : plOf Tryz.prog 136 = some (fun i => some (i * 1, 1)) := by kernel_rfl
@[simp] theorem aggB_144 : aggB Tryz.prog 144 = some false := by kernel_rfl
@[simp] theorem szOf_144 : szOf Tryz.prog 144 = some 1 := by kernel_rfl
@[simp] theorem elOf_144 : elOf Tryz.prog 144 = some 171 := by kernel_rfl
@[simp] theorem fldOf_145_0 : fldOf Tryz.prog 145 0 = some (0, 1, false) := by kernel_rfl
@[simp] theorem fldOf_145_1 : fldOf Tryz.prog 145 1 = some (1, 1, false) := by kernel_rfl
@[simp] theorem fldOf_145_2 : fldOf Tryz.prog 145 2 = some (2, 1, false) := by kernel_rfl
@[simp] theorem fldOf_145_3 : fldOf Tryz.prog 145 3 = some (3, 1, false) := by kernel_rfl
@[simp] theorem fldOf_145_4 : fldOf Tryz.prog 145 4 = some (4, 1, false) := by kernel_rfl
@[simp] theorem fldOf_145_5 : fldOf Tryz.prog 145 5 = some (5, 1, false) := by kernel_rfl
@[simp] theorem fldOf_145_6 : fldOf Tryz.prog 145 6 = some (6, 1, false) := by kernel_rfl
@[simp] theorem fldOf_145_7 : fldOf Tryz.prog 145 7 = some (7, 1, false) := by kernel_rfl
@[simp] theorem fldOf_145_8 : fldOf Tryz.prog 145 8 = some (8, 1, false) := by kernel_rfl
@[simp] theorem plOf_145 : plOf Tryz.prog 145 = some (fun i => [(0, 1), (1, 1), (2, 1), (3, 1), (4, 1), (5, 1), (6, 1), (7, 1), (8, 1)][i]?) := by kernel_rfl
@[simp] theorem aggB_146 : aggB Tryz.prog 146 = some true := by kernel_rfl
@[simp] theorem szOf_146 : szOf Tryz.prog 146 = some 9 := by kernel_rfl
@[simp] theorem zeroOf_146 : zeroOf Tryz.prog 146 = some [.int .i64 0, .bool false, .sl 0 [], .sl 0 [], .sl 0 [], .sl 0 [], .sl 0 [], .sl 0 [], .int .i64 0] := by kernel_rfl
@[simp] theorem fldOf_146_0 : fldOf Tryz.prog 146 0 = some (0, 1, false) := by kernel_rfl
@[simp] theorem fldOf_146_1 : fldOf Tryz.prog 146 1 = some (1, 1, false) := by kernel_rfl
@[simp] theorem fldOf_146_2 : fldOf Tryz.prog 146 2 = some (2, 1, false) := by kernel_rfl
@[simp] theorem fldOf_146_3 : fldOf Tryz.prog 146 3 = some (3, 1, false) := by kernel_rfl
@[simp] theorem fldOf_146_4 : fldOf Tryz.prog 146 4 = some (4, 1, false) := by kernel_rfl
@[simp] theorem fldOf_146_5 : fldOf Tryz.prog 146 5 = some (5, 1, false) := by kernel_rfl
@[simp] theorem fldOf_146_6 : fldOf Tryz.prog 146 6 = some (6, 1, false) := by kernel_rfl
@[simp] theorem fldOf_146_7 : fldOf Tryz.prog 146 7 = some (7, 1, false) := by kernel_rfl
@[simp] theorem fldOf_146_8 : fldOf Tryz.prog 146 8 = some (8, 1, false) := by kernel_rfl
@[simp] theorem plOf_146 : plOf Tryz.prog 146 = some (fun i => [(0, 1), (1, 1), (2, 1), (3, 1), (4, 1), (5, 1), (6, 1), (7, 1), (8, 1)][i]?) := by kernel_rfl
@[simp] theorem zeroOf_153 : zeroOf Tryz.prog 153 = some [.bool false, .bool false, .bool false, .bool false, .bool false, .bool false] := by kernel_rfl
@[simp] theorem elOf_153 : elOf Tryz.prog 153 = none := by kernel_rfl
@[simp] theorem arOf_153 : arOf Tryz.prog 153 = some (6, 4) := by kernel_rfl
@[simp] theorem plOf_153 : plOf Tryz.prog 153 = some (fun i => some (i * 1, 1)) := by kernel_rfl
@[simp] theorem mpTy_168 : mpTy Tryz.prog 168 = some (3, 3) := by kernel_rfl
@[simp] theorem elOf_168 : elOf Tryz.prog 168 = none := by kernel_rfl
@[simp] theorem fldOf_170_0 : fldOf Tryz.prog 170 0 = some (0, 1, false) := by kernel_rfl
@[simp] theorem fldOf_170_1 : fldOf Tryz.prog 170 1 = some (1, 1, false) := by kernel_rfl
@[simp] theorem plOf_170 : plOf Tryz.prog 170 = some (fun i => [(0, 1), (1, 1)][i]?) := by kernel_rfl
@[simp] theorem szOf_171 : szOf Tryz.prog 171 = some 2 := by kernel_rfl
@[simp] theorem byOf_171 : byOf Tryz.prog 171 = some 32 := by kernel_rfl
@[simp] theorem zeroOf_171 : zeroOf Tryz.prog 171 = some [.str ⟨#[]⟩, .str ⟨#[]⟩] := by kernel_rfl
@[simp] theorem fldOf_171_0 : fldOf Tryz.prog 171 0 = some (0, 1, false) := by kernel_rfl
@[simp] theorem fldOf_171_1 : fldOf Tryz.prog 171 1 = some (1, 1, false) := by kernel_rfl
@[simp] theorem plOf_171 : plOf Tryz.prog 171 = some (fun i => [(0, 1), (1, 1)][i]?) := by kernel_rfl
@[simp] theorem mpTy_172 : mpTy Tryz.prog 172 = some (9, 3) := by kernel_rfl
@[simp] theorem fldOf_174_0 : fldOf Tryz.prog 174 0 = some (0, 1, false) := by kernel_rfl
@[simp] theorem fldOf_174_1 : fldOf Tryz.prog 174 1 = some (1, 1, false) := by kernel_rfl
@[simp] theorem fldOf_174_2 : fldOf Tryz.prog 174 2 = some (2, 1, false) := by kernel_rfl
@[simp] theorem fldOf_174_3 : fldOf Tryz.prog 174 3 = some (3, 1, false) := by kernel_rfl
@[simp] theorem plOf_174 : plOf Tryz.prog 174 = some (fun i => [(0, 1), (1, 1), (2, 1), (3, 1)][i]?) := by kernel_rfl
@[simp] theorem plOf_176 : plOf Tryz.prog 176 = some (fun i => some (i * 1, 1)) := by kernel_rfl
@[simp] theorem fldOf_177_0 : fldOf Tryz.prog 177 0 = some (0, 0, true) := by kernel_rfl
@[simp] theorem plOf_177 : plOf Tryz.prog 177 = some (fun i => [(0, 0)][i]?) := by kernel_rfl
@[simp] theorem fldOf_186_0 : fldOf Tryz.prog 186 0 = some (0, 1, false) := by kernel_rfl
@[simp] theorem fldOf_186_1 : fldOf Tryz.prog 186 1 = some (1, 1, false) := by kernel_rfl
@[simp] theorem fldOf_186_2 : fldOf Tryz.prog 186 2 = some (2, 1, false) := by kernel_rfl
@[simp] theorem fldOf_186_3 : fldOf Tryz.prog 186 3 = some (3, 1, false) := by kernel_rfl
@[simp] theorem fldOf_186_4 : fldOf Tryz.prog 186 4 = some (4, 1, false) := by kernel_rfl
@[simp] theorem fldOf_186_5 : fldOf Tryz.prog 186 5 = some (5, 1, false) := by kernel_rfl
@[simp] theorem fldOf_186_6 : fldOf Tryz.prog 186 6 = some (6, 1, false) := by kernel_rfl
@[simp] theorem fldOf_186_7 : fldOf Tryz.prog 186 7 = some (7, 1, false) := by kernel_rfl
@[simp] theorem fldOf_186_8 : fldOf Tryz.prog 186 8 = some (8, 1, false) := by kernel_rfl
@[simp] theorem fldOf_186_9 : fldOf Tryz.prog 186 9 = some (9, 1, false) := by kernel_rfl
@[simp] theorem fldOf_186_10 : fldOf Tryz.prog 186 10 = some (10, 1, false) := by kernel_rfl
@[simp] theorem plOf_186 : plOf Tryz.prog 186 = some (fun i => [(0, 1), (1, 1), (2, 1), (3, 1), (4, 1), (5, 1), (6, 1), (7, 1), (8, 1), (9, 1), (10, 1)][i]?) := by kernel_rfl
end Go.Proofs.YtghnmmfkckneaaaGreat.M
