/-
  The layout of the types of this seat's program, written by a program of mine.
-/
import Derived.Test.YtghnmmfkckneaaaZraf
import Derived.Test.YtghnmmfkckneaaaProg
namespace Go.Proofs.Ytghnmmfkckneaaa.M
open Go.RowKit

@[simp] theorem aggB_3 : aggB Try.prog 3 = some false := by kernel_rfl
@[simp] theorem szOf_3 : szOf Try.prog 3 = some 1 := by kernel_rfl
@[simp] theorem byOf_3 : byOf Try.prog 3 = some 8 := by kernel_rfl
@[simp] theorem zeroOf_3 : zeroOf Try.prog 3 = some [.int .i64 0] := by kernel_rfl
@[simp] theorem zero1_3 : zero1 Try.prog 3 = some (.int .i64 0) := by kernel_rfl
@[simp] theorem intB_3 : intB Try.prog 3 = some .i64 := by kernel_rfl
@[simp] theorem aggB_4 : aggB Try.prog 4 = some false := by kernel_rfl
@[simp] theorem szOf_4 : szOf Try.prog 4 = some 1 := by kernel_rfl
@[simp] theorem byOf_4 : byOf Try.prog 4 = some 1 := by kernel_rfl
@[simp] theorem zeroOf_4 : zeroOf Try.prog 4 = some [.bool false] := by kernel_rfl
@[simp] theorem boolB_4 : boolB Try.prog 4 = true := by kernel_rfl
@[simp] theorem szOf_5 : szOf Try.prog 5 = some 1 := by kernel_rfl
@[simp] theorem byOf_5 : byOf Try.prog 5 = some 1 := by kernel_rfl
@[simp] theorem zeroOf_5 : zeroOf Try.prog 5 = some [.int .u8 0] := by kernel_rfl
@[simp] theorem intB_5 : intB Try.prog 5 = some .u8 := by kernel_rfl
@[simp] theorem fldOf_7_0 : fldOf Try.prog 7 0 = some (0, 1, false) := by kernel_rfl
@[simp] theorem fldOf_7_1 : fldOf Try.prog 7 1 = some (1, 1, false) := by kernel_rfl
@[simp] theorem fldOf_7_2 : fldOf Try.prog 7 2 = some (2, 1, false) := by kernel_rfl
@[simp] theorem fldOf_7_3 : fldOf Try.prog 7 3 = some (3, 1, false) := by kernel_rfl
@[simp] theorem plOf_7 : plOf Try.prog 7 = some (fun i => [(0, 1), (1, 1), (2, 1), (3, 1)][i]?) := by kernel_rfl
@[simp] theorem aggB_9 : aggB Try.prog 9 = some false := by kernel_rfl
@[simp] theorem szOf_9 : szOf Try.prog 9 = some 1 := by kernel_rfl
@[simp] theorem byOf_9 : byOf Try.prog 9 = some 16 := by kernel_rfl
@[simp] theorem zeroOf_9 : zeroOf Try.prog 9 = some [.str ⟨#[]⟩] := by kernel_rfl
@[simp] theorem strB_9 : strB Try.prog 9 = true := by kernel_rfl
@[simp] theorem fldOf_13_0 : fldOf Try.prog 13 0 = some (0, 1, false) := by kernel_rfl
@[simp] theorem fldOf_13_1 : fldOf Try.prog 13 1 = some (1, 1, false) := by kernel_rfl
@[simp] theorem plOf_13 : plOf Try.prog 13 = some (fun i => [(0, 1), (1, 1)][i]?) := by kernel_rfl
@[simp] theorem fldOf_18_0 : fldOf Try.prog 18 0 = some (0, 1, false) := by kernel_rfl
@[simp] theorem plOf_18 : plOf Try.prog 18 = some (fun i => [(0, 1)][i]?) := by kernel_rfl
@[simp] theorem elOf_22 : elOf Try.prog 22 = some 5 := by kernel_rfl
@[simp] theorem aggB_23 : aggB Try.prog 23 = some false := by kernel_rfl
@[simp] theorem szOf_23 : szOf Try.prog 23 = some 1 := by kernel_rfl
@[simp] theorem elOf_23 : elOf Try.prog 23 = some 9 := by kernel_rfl
@[simp] theorem aggB_24 : aggB Try.prog 24 = some false := by kernel_rfl
@[simp] theorem szOf_24 : szOf Try.prog 24 = some 1 := by kernel_rfl
@[simp] theorem elOf_24 : elOf Try.prog 24 = some 26 := by kernel_rfl
@[simp] theorem fldOf_25_0 : fldOf Try.prog 25 0 = some (0, 1, false) := by kernel_rfl
@[simp] theorem fldOf_25_1 : fldOf Try.prog 25 1 = some (1, 1, false) := by kernel_rfl
@[simp] theorem fldOf_25_2 : fldOf Try.prog 25 2 = some (2, 1, false) := by kernel_rfl
@[simp] theorem plOf_25 : plOf Try.prog 25 = some (fun i => [(0, 1), (1, 1), (2, 1)][i]?) := by kernel_rfl
@[simp] theorem aggB_26 : aggB Try.prog 26 = some true := by kernel_rfl
@[simp] theorem szOf_26 : szOf Try.prog 26 = some 3 := by kernel_rfl
@[simp] theorem byOf_26 : byOf Try.prog 26 = some 40 := by kernel_rfl
@[simp] theorem zeroOf_26 : zeroOf Try.prog 26 = some [.int .i64 0, .int .i64 0, .sl 0 []] := by kernel_rfl
@[simp] theorem fldOf_26_0 : fldOf Try.prog 26 0 = some (0, 1, false) := by kernel_rfl
@[simp] theorem fldOf_26_1 : fldOf Try.prog 26 1 = some (1, 1, false) := by kernel_rfl
@[simp] theorem fldOf_26_2 : fldOf Try.prog 26 2 = some (2, 1, false) := by kernel_rfl
@[simp] theorem plOf_26 : plOf Try.prog 26 = some (fun i => [(0, 1), (1, 1), (2, 1)][i]?) := by kernel_rfl
@[simp] theorem fldOf_30_0 : fldOf Try.prog 30 0 = some (0, 3, true) := by kernel_rfl
@[simp] theorem fldOf_30_1 : fldOf Try.prog 30 1 = some (3, 3, true) := by kernel_rfl
@[simp] theorem plOf_30 : plOf Try.prog 30 = some (fun i => [(0, 3), (3, 3)][i]?) := by kernel_rfl
@[simp] theorem aggB_31 : aggB Try.prog 31 = some true := by kernel_rfl
@[simp] theorem szOf_31 : szOf Try.prog 31 = some 6 := by kernel_rfl
@[simp] theorem zeroOf_31 : zeroOf Try.prog 31 = some [.int .i64 0, .int .i64 0, .sl 0 [], .int .i64 0, .int .i64 0, .sl 0 []] := by kernel_rfl
@[simp] theorem fldOf_31_0 : fldOf Try.prog 31 0 = some (0, 3, true) := by kernel_rfl
@[simp] theorem fldOf_31_1 : fldOf Try.prog 31 1 = some (3, 3, true) := by kernel_rfl
@[simp] theorem plOf_31 : plOf Try.prog 31 = some (fun i => [(0, 3), (3, 3)][i]?) := by kernel_rfl
@[simp] theorem aggB_37 : aggB Try.prog 37 = some false := by kernel_rfl
@[simp] theorem szOf_37 : szOf Try.prog 37 = some 1 := by kernel_rfl
@[simp] theorem byOf_37 : byOf Try.prog 37 = some 24 := by kernel_rfl
@[simp] theorem zeroOf_37 : zeroOf Try.prog 37 = some [.sl 0 []] := by kernel_rfl
@[simp] theorem elOf_37 : elOf Try.prog 37 = some 3 := by kernel_rfl
@[simp] theorem strB_37 : strB Try.prog 37 = false := by kernel_rfl
@[simp] theorem aggB_47 : aggB Try.prog 47 = some false := by kernel_rfl
@[simp] theorem szOf_47 : szOf Try.prog 47 = some 1 := by kernel_rfl
@[simp] theorem elOf_47 : elOf Try.prog 47 = some 37 := by kernel_rfl
@[simp] theorem fldOf_56_0 : fldOf Try.prog 56 0 = some (0, 1, false) := by kernel_rfl
@[simp] theorem fldOf_56_1 : fldOf Try.prog 56 1 = some (1, 1, false) := by kernel_rfl
@[simp] theorem fldOf_56_2 : fldOf Try.prog 56 2 = some (2, 1, false) := by kernel_rfl
@[simp] theorem fldOf_56_3 : fldOf Try.prog 56 3 = some (3, 1, false) := by kernel_rfl
@[simp] theorem plOf_56 : plOf Try.prog 56 = some (fun i => [(0, 1), (1, 1), (2, 1), (3, 1)][i]?) := by kernel_rfl
@[simp] theorem aggB_57 : aggB Try.prog 57 = some true := by kernel_rfl
@[simp] theorem szOf_57 : szOf Try.prog 57 = some 4 := by kernel_rfl
@[simp] theorem zeroOf_57 : zeroOf Try.prog 57 = some [.sl 0 [], .int .i64 0, .bool false, .bool false] := by kernel_rfl
@[simp] theorem fldOf_57_0 : fldOf Try.prog 57 0 = some (0, 1, false) := by kernel_rfl
@[simp] theorem fldOf_57_1 : fldOf Try.prog 57 1 = some (1, 1, false) := by kernel_rfl
@[simp] theorem fldOf_57_2 : fldOf Try.prog 57 2 = some (2, 1, false) := by kernel_rfl
@[simp] theorem fldOf_57_3 : fldOf Try.prog 57 3 = some (3, 1, false) := by kernel_rfl
@[simp] theorem plOf_57 : plOf Try.prog 57 = some (fun i => [(0, 1), (1, 1), (2, 1), (3, 1)][i]?) := by kernel_rfl
@[simp] theorem fldOf_68_0 : fldOf Try.prog 68 0 = some (0, 1, false) := by kernel_rfl
@[simp] theorem fldOf_68_1 : fldOf Try.prog 68 1 = some (1, 1, false) := by kernel_rfl
@[simp] theorem plOf_68 : plOf Try.prog 68 = some (fun i => [(0, 1), (1, 1)][i]?) := by kernel_rfl
@[simp] theorem szOf_69 : szOf Try.prog 69 = some 2 := by kernel_rfl
@[simp] theorem zeroOf_69 : zeroOf Try.prog 69 = some [.str ⟨#[]⟩, .int .i64 0] := by kernel_rfl
@[simp] theorem fldOf_69_0 : fldOf Try.prog 69 0 = some (0, 1, false) := by kernel_rfl
@[simp] theorem fldOf_69_1 : fldOf Try.prog 69 1 = some (1, 1, false) := by kernel_rfl
@[simp] theorem plOf_69 : plOf Try.prog 69 = some (fun i => [(0, 1), (1, 1)][i]?) := by kernel_rfl
@[simp] theorem fldOf_72_0 : fldOf Try.prog 72 0 = some (0, 1, false) := by kernel_rfl
@[simp] theorem fldOf_72_1 : fldOf Try.prog 72 1 = some (1, 1, false) := by kernel_rfl
@[simp] theorem fldOf_72_2 : fldOf Try.prog 72 2 = some (2, 1, false) := by kernel_rfl
@[simp] theorem plOf_72 : plOf Try.prog 72 = some (fun i => [(0, 1), (1, 1), (2, 1)][i]?) := by kernel_rfl
@[simp] theorem fldOf_73_0 : fldOf Try.prog 73 0 = some (0, 1, false) := by kernel_rfl
@[simp] theorem fldOf_73_1 : fldOf Try.prog 73 1 = some (1, 1, false) := by kernel_rfl
@[simp] theorem fldOf_73_2 : fldOf Try.prog 73 2 = some (2, 1, false) := by kernel_rfl
@[simp] theorem plOf_73 : plOf Try.prog 73 = some (fun i => [(0, 1), (1, 1), (2, 1)][i]?) := by kernel_rfl
@[simp] theorem fldOf_78_0 : fldOf Try.prog 78 0 = some (0, 1, false) := by kernel_rfl
@[simp] theorem fldOf_78_1 : fldOf Try.prog 78 1 = some (1, 1, false) := by kernel_rfl
@[simp] theorem plOf_78 : plOf Try.prog 78 = some (fun i => [(0, 1), (1, 1)][i]?) := by kernel_rfl
@[simp] theorem zeroOf_79 : zeroOf Try.prog 79 = some [.sl 0 [], .int .i64 0] := by kernel_rfl
@[simp] theorem fldOf_79_0 : fldOf Try.prog 79 0 = some (0, 1, false) := by kernel_rfl
@[simp] theorem fldOf_79_1 : fldOf Try.prog 79 1 = some (1, 1, false) := by kernel_rfl
@[simp] theorem plOf_79 : plOf Try.prog 79 = some (fun i => [(0, 1), (1, 1)][i]?) := by kernel_rfl
@[simp] theorem aggB_90 : aggB Try.prog 90 = some false := by kernel_rfl
@[simp] theorem szOf_90 : szOf Try.prog 90 = some 1 := by kernel_rfl
@[simp] theorem zeroOf_90 : zeroOf Try.prog 90 = some [.sl 0 []] := by kernel_rfl
@[simp] theorem elOf_90 : elOf Try.prog 90 = some 129 := by kernel_rfl
@[simp] theorem aggB_92 : aggB Try.prog 92 = some false := by kernel_rfl
@[simp] theorem szOf_92 : szOf Try.prog 92 = some 1 := by kernel_rfl
@[simp] theorem aggB_99 : aggB Try.prog 99 = some false := by kernel_rfl
@[simp] theorem szOf_99 : szOf Try.prog 99 = some 1 := by kernel_rfl
@[simp] theorem elOf_99 : elOf Try.prog 99 = some 4 := by kernel_rfl
@[simp] theorem fldOf_100_0 : fldOf Try.prog 100 0 = some (0, 1, false) := by kernel_rfl
@[simp] theorem fldOf_100_1 : fldOf Try.prog 100 1 = some (1, 1, false) := by kernel_rfl
@[simp] theorem fldOf_100_2 : fldOf Try.prog 100 2 = some (2, 1, false) := by kernel_rfl
@[simp] theorem fldOf_100_3 : fldOf Try.prog 100 3 = some (3, 1, false) := by kernel_rfl
@[simp] theorem fldOf_100_4 : fldOf Try.prog 100 4 = some (4, 1, false) := by kernel_rfl
@[simp] theorem fldOf_100_5 : fldOf Try.prog 100 5 = some (5, 1, false) := by kernel_rfl
@[simp] theorem plOf_100 : plOf Try.prog 100 = some (fun i => [(0, 1), (1, 1), (2, 1), (3, 1), (4, 1), (5, 1)][i]?) := by kernel_rfl
@[simp] theorem aggB_101 : aggB Try.prog 101 = some true := by kernel_rfl
@[simp] theorem szOf_101 : szOf Try.prog 101 = some 6 := by kernel_rfl
@[simp] theorem zeroOf_101 : zeroOf Try.prog 101 = some [.int .i64 0, .sl 0 [], .sl 0 [], .sl 0 [], .sl 0 [], .sl 0 []] := by kernel_rfl
@[simp] theorem fldOf_101_0 : fldOf Try.prog 101 0 = some (0, 1, false) := by kernel_rfl
@[simp] theorem fldOf_101_1 : fldOf Try.prog 101 1 = some (1, 1, false) := by kernel_rfl
@[simp] theorem fldOf_101_2 : fldOf Try.prog 101 2 = some (2, 1, false) := by kernel_rfl
@[simp] theorem fldOf_101_3 : fldOf Try.prog 101 3 = some (3, 1, false) := by kernel_rfl
@[simp] theorem fldOf_101_4 : fldOf Try.prog 101 4 = some (4, 1, false) := by kernel_rfl
@[simp] theorem fldOf_101_5 : fldOf Try.prog 101 5 = some (5, 1, false) := by kernel_rfl
@[simp] theorem plOf_101 : plOf Try.prog 101 = some (fun i => [(0, 1), (1, 1), (2, 1), (3, 1), (4, 1), (5, 1)][i]?) := by kernel_rfl
@[simp] theorem fldOf_104_0 : fldOf Try.prog 104 0 = some (0, 1, false) := by kernel_rfl
@[simp] theorem fldOf_104_1 : fldOf Try.prog 104 1 = some (1, 1, false) := by kernel_rfl
@[simp] theorem fldOf_104_2 : fldOf Try.prog 104 2 = some (2, 1, false) := by kernel_rfl
@[simp] theorem fldOf_104_3 : fldOf Try.prog 104 3 = some (3, 1, false) := by kernel_rfl
@[simp] theorem plOf_104 : plOf Try.prog 104 = some (fun i => [(0, 1), (1, 1), (2, 1), (3, 1)][i]?) := by kernel_rfl
@[simp] theorem aggB_105 : aggB Try.prog 105 = some true := by kernel_rfl
@[simp] theorem szOf_105 : szOf Try.prog 105 = some 4 := by kernel_rfl
@[simp] theorem zeroOf_105 : zeroOf Try.prog 105 = some [.int .i64 0, .int .i64 0, .sl 0 [], .sl 0 []] := by kernel_rfl
@[simp] theorem fldOf_105_0 : fldOf Try.prog 105 0 = some (0, 1, false) := by kernel_rfl
@[simp] theorem fldOf_105_1 : fldOf Try.prog 105 1 = some (1, 1, false) := by kernel_rfl
@[simp] theorem fldOf_105_2 : fldOf Try.prog 105 2 = some (2, 1, false) := by kernel_rfl
@[simp] theorem fldOf_105_3 : fldOf Try.prog 105 3 = some (3, 1, false) := by kernel_rfl
@[simp] theorem plOf_105 : plOf Try.prog 105 = some (fun i => [(0, 1), (1, 1), (2, 1), (3, 1)][i]?) := by kernel_rfl
@[simp] theorem fldOf_111_0 : fldOf Try.prog 111 0 = some (0, 1, false) := by kernel_rfl
@[simp] theorem fldOf_111_1 : fldOf Try.prog 111 1 = some (1, 1, false) := by kernel_rfl
@[simp] theorem fldOf_111_2 : fldOf Try.prog 111 2 = some (2, 1, false) := by kernel_rfl
@[simp] theorem fldOf_111_3 : fldOf Try.prog 111 3 = some (3, 1, false) := by kernel_rfl
@[simp] theorem fldOf_111_4 : fldOf Try.prog 111 4 = some (4, 1, false) := by kernel_rfl
@[simp] theorem plOf_111 : plOf Try.prog 111 = some (fun i => [(0, 1), (1, 1), (2, 1), (3, 1), (4, 1)][i]?) := by kernel_rfl
@[simp] theorem zeroOf_112 : zeroOf Try.prog 112 = some [.nilp, .sl 0 [], .sl 0 [], .sl 0 [], .sl 0 []] := by kernel_rfl
@[simp] theorem fldOf_112_0 : fldOf Try.prog 112 0 = some (0, 1, false) := by kernel_rfl
@[simp] theorem fldOf_112_1 : fldOf Try.prog 112 1 = some (1, 1, false) := by kernel_rfl
@[simp] theorem fldOf_112_2 : fldOf Try.prog 112 2 = some (2, 1, false) := by kernel_rfl
@[simp] theorem fldOf_112_3 : fldOf Try.prog 112 3 = some (3, 1, false) := by kernel_rfl
@[simp] theorem fldOf_112_4 : fldOf Try.prog 112 4 = some (4, 1, false) := by kernel_rfl
@[simp] theorem plOf_112 : plOf Try.prog 112 = some (fun i => [(0, 1), (1, 1), (2, 1), (3, 1), (4, 1)][i]?) := by kernel_rfl
@[simp] theorem fldOf_128_0 : fldOf Try.prog 128 0 = some (0, 1, false) := by kernel_rfl
@[simp] theorem fldOf_128_1 : fldOf Try.prog 128 1 = some (1, 1, false) := by kernel_rfl
@[simp] theorem plOf_128 : plOf Try.prog 128 = some (fun i => [(0, 1), (1, 1)][i]?) := by kernel_rfl
@[simp] theorem aggB_129 : aggB Try.prog 129 = some true := by kernel_rfl
@[simp] theorem szOf_129 : szOf Try.prog 129 = some 2 := by kernel_rfl
@[simp] theorem byOf_129 : byOf Try.prog 129 = some 16 := by kernel_rfl
@[simp] theorem zeroOf_129 : zeroOf Try.prog 129 = some [.int .i64 0, .int .i64 0] := by kernel_rfl
@[simp] theorem fldOf_129_0 : fldOf Try.prog 129 0 = some (0, 1, false) := by kernel_rfl
@[simp] theorem fldOf_129_1 : fldOf Try.prog 129 1 = some (1, 1, false) := by kernel_rfl
@[simp] theorem plOf_129 : plOf Try.prog 129 = some (fun i => [(0, 1), (1, 1)][i]?) := by kernel_rfl
@[simp] theorem elOf_130 : elOf Try.prog 130 = some 90 := by kernel_rfl
@[simp] theorem elOf_131 : elOf Try.prog 131 = none := by kernel_rfl
@[simp] theorem arOf_131 : arOf Try.prog 131 = some (11, 37) := by kernel_rfl
@[simp] theorem plOf_131 : plOf Try.prog 131 = some (fun i => some (i * 1, 1)) := by kernel_rfl
@[simp] theorem fldOf_132_0 : fldOf Try.prog 132 0 = some (0, 1, false) := by kernel_rfl
@[simp] theorem fldOf_132_1 : fldOf Try.prog 132 1 = some (1, 1, false) := by kernel_rfl
@[simp] theorem fldOf_132_2 : fldOf Try.prog 132 2 = some (2, 11, true) := by kernel_rfl
@[simp] theorem plOf_132 : plOf Try.prog 132 = some (fun i => [(0, 1), (1, 1), (2, 11)][i]?) := by kernel_rfl
@[simp] theorem zeroOf_133 : zeroOf Try.prog 133 = some [.sl 0 [], .int .i64 0, .sl 0 [], .sl 0 [], .sl 0 [], .sl 0 [], .sl 0 [], .sl 0 [], .sl 0 [], .sl 0 [], .sl 0 [], .sl 0 [], .sl 0 []] := by kernel_rfl
@[simp] theorem fldOf_133_0 : fldOf Try.prog 133 0 = some (0, 1, false) := by kernel_rfl
@[simp] theorem fldOf_133_1 : fldOf Try.prog 133 1 = some (1, 1, false) := by kernel_rfl
@[simp] theorem fldOf_133_2 : fldOf Try.prog 133 2 = some (2, 11, true) := by kernel_rfl
@[simp] theorem plOf_133 : plOf Try.prog 133 = some (fun i => [(0, 1), (1, 1), (2, 11)][i]?) := by kernel_rfl
@[simp] theorem zeroOf_134 : zeroOf Try.prog 134 = some [.int .i64 0, .int .i64 0, .int .i64 0, .int .i64 0, .int .i64 0, .int .i64 0, .int .i64 0, .int .i64 0, .int .i64 0, .int .i64 0, .int .i64 0, .int .i64 0, .int .i64 0, .int .i64 0, .int .i64 0, .int .i64 0, .int .i64 0, .int .i64 0, .int .i64 0, .int .i64 0, .int .i64 0, .int .i64 0, .int .i64 0, .int .i64 0, .int .i64 0, .int .i64 0, .int .i64 0, .int .i64 0, .int .i64 0, .int .i64 0, .int .i64 0, .int .i64 0, .int .i64 0, .int .i64 0, .int .i64 0, .int .i64 0, .int .i64 0, .int .i64 0, .int .i64 0, .int .i64 0, .int .i64 0, .int .i64 0, .int .i64 0, .int .i64 0, .int .i64 0, .int .i64 0, .int .i64 0, .int .i64 0, .int .i64 0, .int .i64 0, .int .i64 0, .int .i64 0, .int .i64 0, .int .i64 0, .int .i64 0, .int .i64 0, .int .i64 0, .int .i64 0, .int .i64 0, .int .i64 0, .int .i64 0] := by kernel_rfl
@[simp] theorem elOf_134 : elOf Try.prog 134 = none := by kernel_rfl
@[simp] theorem arOf_134 : arOf Try.prog 134 = some (61, 3) := by kernel_rfl
@[simp] theorem plOf_134 : plOf Try.prog 134 = some (fun i => some (i * 1, 1)) := by kernel_rfl
@[simp] theorem aggB_154 : aggB Try.prog 154 = some false := by kernel_rfl
@[simp] theorem szOf_154 : szOf Try.prog 154 = some 1 := by kernel_rfl
@[simp] theorem elOf_154 : elOf Try.prog 154 = some 178 := by kernel_rfl
@[simp] theorem fldOf_155_0 : fldOf Try.prog 155 0 = some (0, 1, false) := by kernel_rfl
@[simp] theorem fldOf_155_1 : fldOf Try.prog 155 1 = some (1, 1, false) := by kernel_rfl
@[simp] theorem fldOf_155_2 : fldOf Try.prog 155 2 = some (2, 1, false) := by kernel_rfl
@[simp] theorem fldOf_155_3 : fldOf Try.prog 155 3 = some (3, 1, false) := by kernel_rfl
@[simp] theorem fldOf_155_4 : fldOf Try.prog 155 4 = some (4, 1, false) := by kernel_rfl
@[simp] theorem fldOf_155_5 : fldOf Try.prog 155 5 = some (5, 1, false) := by kernel_rfl
@[simp] theorem fldOf_155_6 : fldOf Try.prog 155 6 = some (6, 1, false) := by kernel_rfl
@[simp] theorem fldOf_155_7 : fldOf Try.prog 155 7 = some (7, 1, false) := by kernel_rfl
@[simp] theorem fldOf_155_8 : fldOf Try.prog 155 8 = some (8, 1, false) := by kernel_rfl
@[simp] theorem plOf_155 : plOf Try.prog 155 = some (fun i => [(0, 1), (1, 1), (2, 1), (3, 1), (4, 1), (5, 1), (6, 1), (7, 1), (8, 1)][i]?) := by kernel_rfl
@[simp] theorem aggB_156 : aggB Try.prog 156 = some true := by kernel_rfl
@[simp] theorem szOf_156 : szOf Try.prog 156 = some 9 := by kernel_rfl
@[simp] theorem zeroOf_156 : zeroOf Try.prog 156 = some [.int .i64 0, .bool false, .sl 0 [], .sl 0 [], .sl 0 [], .sl 0 [], .sl 0 [], .sl 0 [], .int .i64 0] := by kernel_rfl
@[simp] theorem fldOf_156_0 : fldOf Try.prog 156 0 = some (0, 1, false) := by kernel_rfl
@[simp] theorem fldOf_156_1 : fldOf Try.prog 156 1 = some (1, 1, false) := by kernel_rfl
@[simp] theorem fldOf_156_2 : fldOf Try.prog 156 2 = some (2, 1, false) := by kernel_rfl
@[simp] theorem fldOf_156_3 : fldOf Try.prog 156 3 = some (3, 1, false) := by kernel_rfl
@[simp] theorem fldOf_156_4 : fldOf Try.prog 156 4 = some (4, 1, false) := by kernel_rfl
@[simp] theorem fldOf_156_5 : fldOf Try.prog 156 5 = some (5, 1, false) := by kernel_rfl
@[simp] theorem fldOf_156_6 : fldOf Try.prog 156 6 = some (6, 1, false) := by kernel_rfl
@[simp] theorem fldOf_156_7 : fldOf Try.prog 156 7 = some (7, 1, false) := by kernel_rfl
@[simp] theorem fldOf_156_8 : fldOf Try.prog 156 8 = some (8, 1, false) := by kernel_rfl
@[simp] theorem plOf_156 : plOf Try.prog 156 = some (fun i => [(0, 1), (1, 1), (2, 1), (3, 1), (4, 1), (5, 1), (6, 1), (7, 1), (8, 1)][i]?) := by kernel_rfl
@[simp] theorem zeroOf_164 : zeroOf Try.prog 164 = some [.bool false, .bool false, .bool false, .bool false, .bool false, .bool false] := by kernel_rfl
@[simp] theorem elOf_164 : elOf Try.prog 164 = none := by kernel_rfl
@[simp] theorem arOf_164 : arOf Try.prog 164 = some (6, 4) := by kernel_rfl
@[simp] theorem plOf_164 : plOf Try.prog 164 = some (fun i => some (i * 1, 1)) := by kernel_rfl
@[simp] theorem mpTy_175 : mpTy Try.prog 175 = some (3, 3) := by kernel_rfl
@[simp] theorem elOf_175 : elOf Try.prog 175 = none := by kernel_rfl
@[simp] theorem fldOf_177_0 : fldOf Try.prog 177 0 = some (0, 1, false) := by kernel_rfl
@[simp] theorem fldOf_177_1 : fldOf Try.prog 177 1 = some (1, 1, false) := by kernel_rfl
@[simp] theorem plOf_177 : plOf Try.prog 177 = some (fun i => [(0, 1), (1, 1)][i]?) := by kernel_rfl
@[simp] theorem szOf_178 : szOf Try.prog 178 = some 2 := by kernel_rfl
@[simp] theorem byOf_178 : byOf Try.prog 178 = some 32 := by kernel_rfl
@[simp] theorem zeroOf_178 : zeroOf Try.prog 178 = some [.str ⟨#[]⟩, .str ⟨#[]⟩] := by kernel_rfl
@[simp] theorem fldOf_178_0 : fldOf Try.prog 178 0 = some (0, 1, false) := by kernel_rfl
@[simp] theorem fldOf_178_1 : fldOf Try.prog 178 1 = some (1, 1, false) := by kernel_rfl
@[simp] theorem plOf_178 : plOf Try.prog 178 = some (fun i => [(0, 1), (1, 1)][i]?) := by kernel_rfl
@[simp] theorem mpTy_179 : mpTy Try.prog 179 = some (9, 3) := by kernel_rfl
@[simp] theorem fldOf_181_0 : fldOf Try.prog 181 0 = some (0, 1, false) := by kernel_rfl
@[simp] theorem fldOf_181_1 : fldOf Try.prog 181 1 = some (1, 1, false) := by kernel_rfl
@[simp] theorem fldOf_181_2 : fldOf Try.prog 181 2 = some (2, 1, false) := by kernel_rfl
@[simp] theorem fldOf_181_3 : fldOf Try.prog 181 3 = some (3, 1, false) := by kernel_rfl
@[simp] theorem plOf_181 : plOf Try.prog 181 = some (fun i => [(0, 1), (1, 1), (2, 1), (3, 1)][i]?) := by kernel_rfl
@[simp] theorem plOf_183 : plOf Try.prog 183 = some (fun i => some (i * 1, 1)) := by kernel_rfl
@[simp] theorem fldOf_184_0 : fldOf Try.prog 184 0 = some (0, 0, true) := by kernel_rfl
@[simp] theorem plOf_184 : plOf Try.prog 184 = some (fun i => [(0, 0)][i]?) := by kernel_rfl
@[simp] theorem fldOf_193_0 : fldOf Try.prog 193 0 = some (0, 1, false) := by kernel_rfl
@[simp] theorem fldOf_193_1 : fldOf Try.prog 193 1 = some (1, 1, false) := by kernel_rfl
@[simp] theorem fldOf_193_2 : fldOf Try.prog 193 2 = some (2, 1, false) := by kernel_rfl
@[simp] theorem fldOf_193_3 : fldOf Try.prog 193 3 = some (3, 1, false) := by kernel_rfl
@[simp] theorem fldOf_193_4 : fldOf Try.prog 193 4 = some (4, 1, false) := by kernel_rfl
@[simp] theorem fldOf_193_5 : fldOf Try.prog 193 5 = some (5, 1, false) := by kernel_rfl
@[simp] theorem fldOf_193_6 : fldOf Try.prog 193 6 = some (6, 1, false) := by kernel_rfl
@[simp] theorem fldOf_193_7 : fldOf Try.prog 193 7 = some (7, 1, false) := by kernel_rfl
@[simp] theorem fldOf_193_8 : fldOf Try.prog 193 8 = some (8, 1, false) := by kernel_rfl
@[simp] theorem fldOf_193_9 : fldOf Try.prog 193 9 = some (9, 1, false) := by kernel_rfl
@[simp] theorem fldOf_193_10 : fldOf Try.prog 193 10 = some (10, 1, false) := by kernel_rfl
@[simp] theorem plOf_193 : plOf Try.prog 193 = some (fun i => [(0, 1), (1, 1), (2, 1), (3, 1), (4, 1), (5, 1), (6, 1), (7, 1), (8, 1), (9, 1), (10, 1)][i]?) := by kernel_rfl
end Go.Proofs.Ytghnmmfkckneaaa.M
